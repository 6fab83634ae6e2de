/- The law's memory: Make, where the description is too large; the way up to the first loop. -/
import Derived.Test.YtbomhhkknopdpaaGreatDoorM3
namespace Go.Proofs.YtbomhhkknopdpaaGreatDoor
set_option linter.unusedSimpArgs false
set_option linter.unusedVariables false
open Go.RowKit
set_option maxHeartbeats 2000000 in
set_option maxRecDepth 100000 in
theorem make_no (m : MemArg) (w : World) (hs : Sizes w) (hf : m.fits = false) : Calls Tryz.prog 6 #[m.val] w fun e w' => e = .returned (.tuple #[.slice none 0 0, .bool false]) ∧ Below w.heap.size w w' := by
  have hp := hs.pos
  obtain ⟨As, cs, sl, Ac, cc, ce, Ar, cr, re, Ao, co, ov, Aa, ca, ats⟩ := m
  unfold MemArg.fits at hf
  simp only [] at hf
  have hf' : 5 < sl.length ∨ 8 < ce.length ∨ 3 < re.length ∨ 10 < ov.length := by
    simp only [Bool.and_eq_false_iff, decide_eq_false_iff_not] at hf
    omega
  clear hf
  unfold MemArg.val
  simp only []
  by_cases a1 : 5 < sl.length
  · clear hf'
    go_enter Tryz.func6, Tryz.ntmps6
    go_wp2_with (first
      | (go_at_call 5; refine (plan_ok _).mono ?_; rintro e w1 ⟨rfl, hb1⟩; obtain ⟨hcc1, hff1⟩ := bcell hb1; have hs1 := hb1.size; (try simp at hs1); have hz1 : w.heap.size < w1.heap.size := (by omega))
      | (go_at_call 11; refine (first_ok 3 8 2 448 _ valid382 (hs.below (by repeat' (first | with_reducible exact Below.refl _ _ | with_reducible assumption | with_reducible refine Below.alloc ?_ ?_ _ | with_reducible refine Below.setCell ?_ ?_ _ | with_reducible refine Below.drew ?_ | with_reducible refine below_drewN ?_ _ | with_reducible refine Below.trans ?_ (Below.mono (by with_reducible assumption) ?_) | omega | (simp <;> omega)))) from382 (by decide)).mono ?_; rintro e w2 ⟨G, rfl, hG2, hg2, hb2⟩; (try simp at hg2); obtain ⟨hcc2, hff2⟩ := bcell hb2; have hs2 := hb2.size; (try simp at hs2); have hz2 : w.heap.size < w2.heap.size := (by omega)))
    go_ret2
    exact ⟨rfl, (by repeat' (first | with_reducible exact Below.refl _ _ | with_reducible assumption | with_reducible refine Below.alloc ?_ ?_ _ | with_reducible refine Below.setCell ?_ ?_ _ | with_reducible refine Below.drew ?_ | with_reducible refine below_drewN ?_ _ | with_reducible refine Below.trans ?_ (Below.mono (by with_reducible assumption) ?_) | omega | (simp <;> omega)))⟩
  by_cases a2 : 8 < ce.length
  · clear hf'
    go_enter Tryz.func6, Tryz.ntmps6
    go_wp2_with (first
      | (go_at_call 5; refine (plan_ok _).mono ?_; rintro e w1 ⟨rfl, hb1⟩; obtain ⟨hcc1, hff1⟩ := bcell hb1; have hs1 := hb1.size; (try simp at hs1); have hz1 : w.heap.size < w1.heap.size := (by omega))
      | (go_at_call 11; refine (first_ok 3 8 2 448 _ valid382 (hs.below (by repeat' (first | with_reducible exact Below.refl _ _ | with_reducible assumption | with_reducible refine Below.alloc ?_ ?_ _ | with_reducible refine Below.setCell ?_ ?_ _ | with_reducible refine Below.drew ?_ | with_reducible refine below_drewN ?_ _ | with_reducible refine Below.trans ?_ (Below.mono (by with_reducible assumption) ?_) | omega | (simp <;> omega)))) from382 (by decide)).mono ?_; rintro e w2 ⟨G, rfl, hG2, hg2, hb2⟩; (try simp at hg2); obtain ⟨hcc2, hff2⟩ := bcell hb2; have hs2 := hb2.size; (try simp at hs2); have hz2 : w.heap.size < w2.heap.size := (by omega)))
    go_ret2
    exact ⟨rfl, (by repeat' (first | with_reducible exact Below.refl _ _ | with_reducible assumption | with_reducible refine Below.alloc ?_ ?_ _ | with_reducible refine Below.setCell ?_ ?_ _ | with_reducible refine Below.drew ?_ | with_reducible refine below_drewN ?_ _ | with_reducible refine Below.trans ?_ (Below.mono (by with_reducible assumption) ?_) | omega | (simp <;> omega)))⟩
  by_cases a3 : 3 < re.length
  · clear hf'
    go_enter Tryz.func6, Tryz.ntmps6
    go_wp2_with (first
      | (go_at_call 5; refine (plan_ok _).mono ?_; rintro e w1 ⟨rfl, hb1⟩; obtain ⟨hcc1, hff1⟩ := bcell hb1; have hs1 := hb1.size; (try simp at hs1); have hz1 : w.heap.size < w1.heap.size := (by omega))
      | (go_at_call 11; refine (first_ok 3 8 2 448 _ valid382 (hs.below (by repeat' (first | with_reducible exact Below.refl _ _ | with_reducible assumption | with_reducible refine Below.alloc ?_ ?_ _ | with_reducible refine Below.setCell ?_ ?_ _ | with_reducible refine Below.drew ?_ | with_reducible refine below_drewN ?_ _ | with_reducible refine Below.trans ?_ (Below.mono (by with_reducible assumption) ?_) | omega | (simp <;> omega)))) from382 (by decide)).mono ?_; rintro e w2 ⟨G, rfl, hG2, hg2, hb2⟩; (try simp at hg2); obtain ⟨hcc2, hff2⟩ := bcell hb2; have hs2 := hb2.size; (try simp at hs2); have hz2 : w.heap.size < w2.heap.size := (by omega)))
    go_ret2
    exact ⟨rfl, (by repeat' (first | with_reducible exact Below.refl _ _ | with_reducible assumption | with_reducible refine Below.alloc ?_ ?_ _ | with_reducible refine Below.setCell ?_ ?_ _ | with_reducible refine Below.drew ?_ | with_reducible refine below_drewN ?_ _ | with_reducible refine Below.trans ?_ (Below.mono (by with_reducible assumption) ?_) | omega | (simp <;> omega)))⟩
  have a4 : 10 < ov.length := by omega
  clear hf'
  go_enter Tryz.func6, Tryz.ntmps6
  go_wp2_with (first
    | (go_at_call 5; refine (plan_ok _).mono ?_; rintro e w1 ⟨rfl, hb1⟩; obtain ⟨hcc1, hff1⟩ := bcell hb1; have hs1 := hb1.size; (try simp at hs1); have hz1 : w.heap.size < w1.heap.size := (by omega))
    | (go_at_call 11; refine (first_ok 3 8 2 448 _ valid382 (hs.below (by repeat' (first | with_reducible exact Below.refl _ _ | with_reducible assumption | with_reducible refine Below.alloc ?_ ?_ _ | with_reducible refine Below.setCell ?_ ?_ _ | with_reducible refine Below.drew ?_ | with_reducible refine below_drewN ?_ _ | with_reducible refine Below.trans ?_ (Below.mono (by with_reducible assumption) ?_) | omega | (simp <;> omega)))) from382 (by decide)).mono ?_; rintro e w2 ⟨G, rfl, hG2, hg2, hb2⟩; (try simp at hg2); obtain ⟨hcc2, hff2⟩ := bcell hb2; have hs2 := hb2.size; (try simp at hs2); have hz2 : w.heap.size < w2.heap.size := (by omega)))
  go_ret2
  exact ⟨rfl, (by repeat' (first | with_reducible exact Below.refl _ _ | with_reducible assumption | with_reducible refine Below.alloc ?_ ?_ _ | with_reducible refine Below.setCell ?_ ?_ _ | with_reducible refine Below.drew ?_ | with_reducible refine below_drewN ?_ _ | with_reducible refine Below.trans ?_ (Below.mono (by with_reducible assumption) ?_) | omega | (simp <;> omega)))⟩
end Go.Proofs.YtbomhhkknopdpaaGreatDoor
