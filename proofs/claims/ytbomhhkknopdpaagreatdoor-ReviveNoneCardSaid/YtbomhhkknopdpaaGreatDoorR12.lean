/- Package revive: clocks. -/
import Derived.Test.YtbomhhkknopdpaaGreatDoorR10
import Derived.Deep.DeepCutAuto
namespace Go.Proofs.YtbomhhkknopdpaaGreatDoor
set_option linter.unusedSimpArgs false
set_option linter.unusedVariables false
open Go.RowKit
def clocksL (ws : List W3) : Bool := decide (0 ≤ (ws.getD 0 z3).v) && (decide (1 ≤ (ws.getD 1 z3).v) && ((ws.getD 0 z3).f == 0 && (ws.getD 1 z3).f == 0))
set_option maxHeartbeats 16000000 in
set_option maxRecDepth 100000 in
theorem clocks_ok (T C B : Int) (b n cap : Nat) (ws : List W3) (w : World) (hv : Valid T C B) (hs : Sizes w) (hM : Mem b ws w) (hl : ws.length = n) (hn8 : 8 ≤ n) :
    Calls Tryz.prog 45 #[(.agg #[.int .i64 T, .int .i64 C, .int .i64 B]), .slice (some ⟨b, 0, none⟩) n cap] w fun e w' => e = .returned (.bool (clocksL ws)) ∧ Below w.heap.size w w' := by
  have hp := hs.pos
  have hb := hM.2.2
  unfold clocksL
  have hx := get_getD (ws := ws) (k := 0) (by omega)
  have hy := get_getD (ws := ws) (k := 1) (by omega)
  generalize ws.getD 0 z3 = x at hx ⊢
  generalize ws.getD 1 z3 = y at hy ⊢
  have x0 := hM.w0 hx
  have x1 := hM.w1 hx
  have x2 := hM.w2 hx
  have y0 := hM.w0 hy
  have y1 := hM.w1 hy
  have y2 := hM.w2 hy
  simp only [Nat.zero_mul, Nat.zero_add, Nat.one_mul, Nat.reduceAdd] at x0 x1 x2 y0 y1 y2
  have hi0 : (0 : Int) < (n : Int) := by omega
  have hi00 : 0 < n := by omega
  have hi11 : 1 < n := by omega
  have hi1 : (1 : Int) < (n : Int) := by omega
  have hb' : b < w.heap.size + 1 := by omega
  have hne0 : ¬ b = w.heap.size := by omega
  have hne1 : ¬ w.heap.size + 1 = b := by omega
  have hne2 : ¬ w.heap.size + 1 + 1 = b := by omega
  have hne3 : ¬ w.heap.size + 1 = w.heap.size := by omega
  have hne4 : ¬ w.heap.size + 1 + 1 = w.heap.size := by omega
  have hb1' : b < w.heap.size + 1 + 1 := by omega
  have hb2' : b < w.heap.size + 1 + 1 + 1 := by omega
  have hb3' : w.heap.size < w.heap.size + 1 + 1 := by omega
  have hb4' : w.heap.size < w.heap.size + 1 + 1 + 1 := by omega
  obtain ⟨R, hR⟩ : ∃ R, R = (decide (0 ≤ x.v) && (decide (1 ≤ y.v) && (x.f == 0 && y.f == 0))) := ⟨_, rfl⟩
  rw [← hR]
  have HR := hide hR
  clear hM hl hx hy hR
  go_enter Tryz.func45, Tryz.ntmps45
  go_upto_region 1 with fail
  go_cut [5, 6] (fun s5 s6 wx => ∃ B1 B2 : Nat, s5 = .pointer (some ⟨B1, 0, none⟩) ∧ s6 = .pointer (some ⟨B2, 0, none⟩) ∧ w.heap.size < B1 ∧ w.heap.size < B2 ∧ B1 < wx.heap.size ∧ B2 < wx.heap.size ∧ (wx.cell? ⟨B1, 0, none⟩ = some (.int .i64 x.v) ∧ wx.cell? ⟨B1, 1, none⟩ = some (.int .u32 x.r) ∧ wx.cell? ⟨B1, 2, none⟩ = some (.int .u32 x.f)) ∧ (wx.cell? ⟨B2, 0, none⟩ = some (.int .i64 y.v) ∧ wx.cell? ⟨B2, 1, none⟩ = some (.int .u32 y.r) ∧ wx.cell? ⟨B2, 2, none⟩ = some (.int .u32 y.f)) ∧ Below w.heap.size w wx)
  case first =>
    go_region_held3 (fun w' => w'.cell? ⟨w.heap.size, 0, none⟩ = some (.int .i64 T) ∧ w'.cell? ⟨w.heap.size, 1, none⟩ = some (.int .i64 C) ∧ w'.cell? ⟨w.heap.size, 2, none⟩ = some (.int .i64 B) ∧ w'.cell? ⟨b, 0, none⟩ = some (.int .i64 x.v) ∧ w'.cell? ⟨b, 1, none⟩ = some (.int .u32 x.r) ∧ w'.cell? ⟨b, 2, none⟩ = some (.int .u32 x.f) ∧ w'.cell? ⟨b, 3, none⟩ = some (.int .i64 y.v) ∧ w'.cell? ⟨b, 4, none⟩ = some (.int .u32 y.r) ∧ w'.cell? ⟨b, 5, none⟩ = some (.int .u32 y.f))
      (first | exact ⟨by go_simp, by go_simp, by go_simp, by go_simp, by go_simp, by go_simp, by go_simp, by go_simp, by go_simp⟩ | go_keep)
      (first
        | (go_at_call 71; refine (clock_ok T C B _ hv (hs.below (by repeat' (first | with_reducible exact Below.refl _ _ | with_reducible assumption | with_reducible refine Below.alloc ?_ ?_ _ | with_reducible refine Below.setCell ?_ ?_ _ | with_reducible refine Below.drew ?_ | with_reducible refine below_drewN ?_ _ | with_reducible refine Below.trans ?_ (Below.mono (by with_reducible assumption) ?_) | omega | (simp <;> omega))))).mono ?_; rintro e w1 ⟨rfl, hb1'⟩; have hb1 : Below _ _ w1 := (by first | with_reducible exact noDrew hb1' | exact hb1'); clear hb1'; obtain ⟨hcc1, hff1⟩ := bcell hb1; have hs1 := hb1.size; (try simp at hs1); have hz1 : w.heap.size < w1.heap.size := (by omega); have hv1 : b < w1.heap.size := (by omega); have hn1 : ¬ w1.heap.size = w.heap.size := (by omega); have hm1 : ¬ w1.heap.size = b := (by omega); (try have ha1 : w.heap.size + 1 < w1.heap.size := (by omega)); (try have hA1 : w.heap.size + 1 + 1 < w1.heap.size := (by omega)); (try have hd1 : w2.heap.size < w1.heap.size := (by omega)); (try have hD1 : w2.heap.size + 1 < w1.heap.size := (by omega)); (try have he1 : ¬ w1.heap.size = w2.heap.size := (by omega)); (try have hE1 : ¬ w1.heap.size = w.heap.size + 1 := (by omega)); (try have hx1 : w.heap.size < w1.heap.size + 1 := (by omega)); (try have hX1 : b < w1.heap.size + 1 := (by omega)))
        | (go_at_call 35; refine (era_ok T C B _ hv (hs.below (by repeat' (first | with_reducible exact Below.refl _ _ | with_reducible assumption | with_reducible refine Below.alloc ?_ ?_ _ | with_reducible refine Below.setCell ?_ ?_ _ | with_reducible refine Below.drew ?_ | with_reducible refine below_drewN ?_ _ | with_reducible refine Below.trans ?_ (Below.mono (by with_reducible assumption) ?_) | omega | (simp <;> omega))))).mono ?_; rintro e w2 ⟨rfl, hb2'⟩; have hb2 : Below _ _ w2 := (by first | with_reducible exact noDrew hb2' | exact hb2'); clear hb2'; obtain ⟨hcc2, hff2⟩ := bcell hb2; have hs2 := hb2.size; (try simp at hs2); have hz2 : w.heap.size < w2.heap.size := (by omega); have hv2 : b < w2.heap.size := (by omega); have hn2 : ¬ w2.heap.size = w.heap.size := (by omega); have hm2 : ¬ w2.heap.size = b := (by omega); (try have ha2 : w.heap.size + 1 < w2.heap.size := (by omega)); (try have hA2 : w.heap.size + 1 + 1 < w2.heap.size := (by omega)); (try have hd2 : w1.heap.size < w2.heap.size := (by omega)); (try have hD2 : w1.heap.size + 1 < w2.heap.size := (by omega)); (try have he2 : ¬ w2.heap.size = w1.heap.size := (by omega)); (try have hE2 : ¬ w2.heap.size = w.heap.size + 1 := (by omega)); (try have hx2 : w.heap.size < w2.heap.size + 1 := (by omega)); (try have hX2 : b < w2.heap.size + 1 := (by omega))))
    all_goals go_wp2_with fail
    all_goals (try have hL1 : w1.heap.size < w1.heap.size + 1 + 1 := (by omega))
    all_goals (try have hL2 : w2.heap.size < w2.heap.size + 1 + 1 := (by omega))
    all_goals go_meet
    all_goals exact ⟨_, _, rfl, rfl, by (try simp) <;> (try omega), by (try simp) <;> (try omega), by (try simp) <;> (try omega), by (try simp) <;> (try omega), ⟨by go_simp, by go_simp, by go_simp⟩, ⟨by go_simp, by go_simp, by go_simp⟩, (by repeat' (first | with_reducible exact Below.refl _ _ | with_reducible assumption | with_reducible refine Below.alloc ?_ ?_ _ | with_reducible refine Below.setCell ?_ ?_ _ | with_reducible refine Below.drew ?_ | with_reducible refine below_drewN ?_ _ | with_reducible refine Below.trans ?_ (Below.mono (by with_reducible assumption) ?_) | omega | (simp <;> omega)))⟩
  case rest =>
    obtain ⟨B1, B2, rfl, rfl, g1, g2, g3, g4, ⟨sb0, sb1, sb2⟩, ⟨cb0, cb1, cb2⟩, hBc⟩ := hcut
    cases a1 : decide (0 ≤ x.v)
    all_goals cases a2 : decide (1 ≤ y.v)
    all_goals cases a3 : (x.f == 0)
    all_goals have hr := HR.out
    all_goals rw [a1, a2, a3] at hr
    all_goals simp only [Bool.true_and, Bool.false_and, Bool.and_false] at hr
    all_goals have Hr := hide hr
    all_goals clear hr
    all_goals go_wp2_with fail
    all_goals go_ret
    all_goals exact ⟨by rw [Hr.out]; rfl, hBc⟩
end Go.Proofs.YtbomhhkknopdpaaGreatDoor
