/- Chapter 52's example. -/
import Derived.Test.YtfldjbojonbmpaaA3
import Derived.ProofKit
namespace Go.Proofs.Ytfldjbojonbmpaa
open Go.RowKit Go.Maps

set_option maxHeartbeats 4000000 in
/-- The chapter's example. -/
theorem awake52_any (w : World) : Calls Try.prog 4 #[] w fun e w' => e = .returned (.bool true) ∧ Below w.heap.size w w' := by
  have w5 : (Lit.int .i64 5).wf = true := by decide
  have w6 : (Lit.int .i64 6).wf = true := by decide
  have W5 := hide w5
  have W6 := hide w6
  clear w5 w6
  go_enter Try.func4, Try.ntmps4
  go_wp2_with fail
  refine (anew_ok 2 _ (by omega) (by omega)).mono ?_
  rintro e w1 ⟨rfl, hb1⟩
  have hz1 := hb1.size
  go_wp2_with fail
  refine (fail_yes 2 2 5 none none 0 (fun _ => 0) (fun _ => 0) _ (by omega) (by omega) (by omega) W5.out ⟨MapF.nil _ _ _, MapF.nil _ _ _⟩ (by omega) (by omega) (by omega) (by omega) (by omega)).mono ?_
  rintro e w2 ⟨v1, v2, rfl, ha2, hb2⟩
  obtain ⟨hc2, hf2⟩ := bcell hb2
  have hy2 : w1.heap.size < w2.heap.size := (by have h := hb2.size; (try simp at h); omega)
  go_wp2_with fail
  refine (fail_yes 2 2 6 v1 v2 1 _ _ _ (by omega) (by omega) (by omega) W6.out ha2 (by omega) (by decide) (by decide) (by decide) (by decide)).mono ?_
  rintro e w3 ⟨v3, v4, rfl, ha3, hb3⟩
  obtain ⟨hc3, hf3⟩ := bcell hb3
  have hy3 : w1.heap.size < w3.heap.size := (by have h := hb3.size; (try simp at h); omega)
  obtain ⟨F, H, ha3, hF2, hF1, hH5⟩ : ∃ F H, AdvR w3 v3 v4 2 F H ∧ F 2 = 2 ∧ F 1 = 0 ∧ H 5 = 1 := ⟨_, _, ha3, by decide, by decide, by decide⟩
  have HF2 := hide hF2
  have HF1 := hide hF1
  have HH5 := hide hH5
  clear hF2 hF1 hH5
  go_wp2_with fail
  refine (rest_in 2 2 v3 v4 2 F H _ (by omega) (by omega) (by omega) (ha3.below (by repeat' (first | with_reducible exact Below.refl _ _ | with_reducible assumption | with_reducible refine Below.alloc ?_ ?_ _ | with_reducible refine Below.setCell ?_ ?_ _ | with_reducible refine Below.drew ?_ | with_reducible refine below_drewN ?_ _ | with_reducible refine Below.trans ?_ (Below.mono (by with_reducible assumption) ?_) | omega | (simp <;> omega)))) (by rw [HF2.out]; decide)).mono ?_
  rintro e w4 ⟨rfl, hb4⟩
  rw [HF2.out, show restv 2 2 = 4 from by decide]
  obtain ⟨hc4, hf4⟩ := bcell hb4
  have hw4_0 : w1.heap.size < w4.heap.size := (by have h := hb4.size; (try simp at h); omega)
  have hw4_1 : w3.heap.size < w4.heap.size := (by have h := hb4.size; (try simp at h); omega)
  go_wp2_with fail
  refine (rest_in 2 1 v3 v4 2 F H _ (by omega) (by omega) (by omega) (ha3.below (by repeat' (first | with_reducible exact Below.refl _ _ | with_reducible assumption | with_reducible refine Below.alloc ?_ ?_ _ | with_reducible refine Below.setCell ?_ ?_ _ | with_reducible refine Below.drew ?_ | with_reducible refine below_drewN ?_ _ | with_reducible refine Below.trans ?_ (Below.mono (by with_reducible assumption) ?_) | omega | (simp <;> omega)))) (by rw [HF1.out]; decide)).mono ?_
  rintro e w5 ⟨rfl, hb5⟩
  rw [HF1.out, show restv 0 1 = 0 from by decide]
  obtain ⟨hc5, hf5⟩ := bcell hb5
  have hw5_0 : w1.heap.size < w5.heap.size := (by have h := hb5.size; (try simp at h); omega)
  have hw5_1 : w3.heap.size < w5.heap.size := (by have h := hb5.size; (try simp at h); omega)
  go_wp2_with fail
  refine (win_yes 2 2 v3 v4 2 F H _ (by omega) (by omega) (by omega) (ha3.below (by repeat' (first | with_reducible exact Below.refl _ _ | with_reducible assumption | with_reducible refine Below.alloc ?_ ?_ _ | with_reducible refine Below.setCell ?_ ?_ _ | with_reducible refine Below.drew ?_ | with_reducible refine below_drewN ?_ _ | with_reducible refine Below.trans ?_ (Below.mono (by with_reducible assumption) ?_) | omega | (simp <;> omega))))).mono ?_
  rintro e w6 ⟨v5, rfl, ha5, hb6⟩
  obtain ⟨hc6, hf6⟩ := bcell hb6
  have hw6_0 : w1.heap.size < w6.heap.size := (by have h := hb6.size; (try simp at h); omega)
  have hw6_1 : w3.heap.size < w6.heap.size := (by have h := hb6.size; (try simp at h); omega)
  go_wp2_with fail
  refine (rest_in 2 2 v5 v4 2 _ _ _ (by omega) (by omega) (by omega) (ha5.below (by repeat' (first | with_reducible exact Below.refl _ _ | with_reducible assumption | with_reducible refine Below.alloc ?_ ?_ _ | with_reducible refine Below.setCell ?_ ?_ _ | with_reducible refine Below.drew ?_ | with_reducible refine below_drewN ?_ _ | with_reducible refine Below.trans ?_ (Below.mono (by with_reducible assumption) ?_) | omega | (simp <;> omega)))) (by rw [upd_same]; decide)).mono ?_
  rintro e w7 ⟨rfl, hb7⟩
  rw [upd_same, show restv 0 2 = 0 from by decide]
  obtain ⟨hc7, hf7⟩ := bcell hb7
  have hw7_0 : w1.heap.size < w7.heap.size := (by have h := hb7.size; (try simp at h); omega)
  have hw7_1 : w3.heap.size < w7.heap.size := (by have h := hb7.size; (try simp at h); omega)
  go_wp2_with fail
  refine (heat_any 2 5 v3 v4 2 F H _ W5.out (ha3.below (by repeat' (first | with_reducible exact Below.refl _ _ | with_reducible assumption | with_reducible refine Below.alloc ?_ ?_ _ | with_reducible refine Below.setCell ?_ ?_ _ | with_reducible refine Below.drew ?_ | with_reducible refine below_drewN ?_ _ | with_reducible refine Below.trans ?_ (Below.mono (by with_reducible assumption) ?_) | omega | (simp <;> omega))))).mono ?_
  rintro e w8 ⟨rfl, hb8⟩
  rw [HH5.out]
  obtain ⟨hc8, hf8⟩ := bcell hb8
  have hw8_0 : w1.heap.size < w8.heap.size := (by have h := hb8.size; (try simp at h); omega)
  have hw8_1 : w3.heap.size < w8.heap.size := (by have h := hb8.size; (try simp at h); omega)
  go_wp2_with fail
  refine (heat_any 2 5 none none 0 (fun _ => 0) (fun _ => 0) _ W5.out ⟨MapF.nil _ _ _, MapF.nil _ _ _⟩).mono ?_
  rintro e w9 ⟨rfl, hb9⟩
  obtain ⟨hc9, hf9⟩ := bcell hb9
  have hw9_0 : w1.heap.size < w9.heap.size := (by have h := hb9.size; (try simp at h); omega)
  have hw9_1 : w3.heap.size < w9.heap.size := (by have h := hb9.size; (try simp at h); omega)
  go_wp2
  go_ret
  exact ⟨rfl, (by repeat' (first | with_reducible exact Below.refl _ _ | with_reducible assumption | with_reducible refine Below.alloc ?_ ?_ _ | with_reducible refine Below.setCell ?_ ?_ _ | with_reducible refine Below.drew ?_ | with_reducible refine below_drewN ?_ _ | with_reducible refine Below.trans ?_ (Below.mono (by with_reducible assumption) ?_) | omega | (simp <;> omega)))⟩
end Go.Proofs.Ytfldjbojonbmpaa
