/- Rest and Heat of package advise and of its reference, over the counts that a list of notes leaves. -/
import Derived.ProofKit
import Derived.Test.YtmjkopejbdipcaaProg
import Derived.WalkKit
import Derived.WalkSpells
import Derived.WalkLawsBesides
import Derived.Deep.QuietTactic
import Derived.BigQuiet
import Derived.Deep.RegionHeld3
import Derived.Laws.EntriesVeiled
import Derived.RegionTactic
import Derived.BigRegion
import Derived.Test.YtmjkopejbdipcaaG00
namespace Go.Proofs.Ytmjkopejbdipcaa
set_option linter.unusedSimpArgs false
set_option linter.unusedVariables false
open Go.RowKit Go.Maps

def p2 : Nat → Int
  | 0 => 1
  | n + 1 => 2 * p2 n
/-- The recommended rest of thread t behind n failures. -/
def restv (n t : Int) : Int := if n = 0 then 0 else if n < 7 then (if 64 < p2 n.toNat - 1 + t - 1 then 64 else p2 n.toNat - 1 + t - 1) else 64


set_option maxHeartbeats 400000 in
theorem rest_at1 (th t : Int) (v1 v2 : Option Nat) (w : World) (ht : 1 ≤ t) (hth : t ≤ th) (h8 : th ≤ 8) (look : ∀ o, (Instr.lookup 76 (.map v1) (.int .i64 t) false).run Try.prog (w.alloc o) = .ok (.int .i64 1) (w.alloc o)) :
    Calls Try.prog 16 #[.agg #[.int .i64 th, .map v1, .map v2], .int .i64 t] w fun e w' => e = .returned (.int .i64 (restv 1 t)) ∧ Below w.heap.size w w' := by
  go_enter Try.func16, Try.ntmps16
  go_wp2_with (go_at_call 30; refine (is_yes th t v1 v2 _ ht hth).mono ?_; rintro e w0 ⟨rfl, hb0⟩)
  go_ret
  refine ⟨by simp [restv, p2]; (try omega), (by repeat' (first | with_reducible exact Below.refl _ _ | with_reducible assumption | with_reducible refine Below.alloc ?_ ?_ _ | with_reducible refine Below.setCell ?_ ?_ _ | with_reducible refine Below.drew ?_ | with_reducible refine below_drewN ?_ _ | with_reducible refine Below.trans ?_ (Below.mono (by with_reducible assumption) ?_) | omega | (simp <;> omega)))⟩
set_option maxHeartbeats 400000 in
theorem rest_at2 (th t : Int) (v1 v2 : Option Nat) (w : World) (ht : 1 ≤ t) (hth : t ≤ th) (h8 : th ≤ 8) (look : ∀ o, (Instr.lookup 76 (.map v1) (.int .i64 t) false).run Try.prog (w.alloc o) = .ok (.int .i64 2) (w.alloc o)) :
    Calls Try.prog 16 #[.agg #[.int .i64 th, .map v1, .map v2], .int .i64 t] w fun e w' => e = .returned (.int .i64 (restv 2 t)) ∧ Below w.heap.size w w' := by
  go_enter Try.func16, Try.ntmps16
  go_wp2_with (go_at_call 30; refine (is_yes th t v1 v2 _ ht hth).mono ?_; rintro e w0 ⟨rfl, hb0⟩)
  go_ret
  refine ⟨by simp [restv, p2]; (try omega), (by repeat' (first | with_reducible exact Below.refl _ _ | with_reducible assumption | with_reducible refine Below.alloc ?_ ?_ _ | with_reducible refine Below.setCell ?_ ?_ _ | with_reducible refine Below.drew ?_ | with_reducible refine below_drewN ?_ _ | with_reducible refine Below.trans ?_ (Below.mono (by with_reducible assumption) ?_) | omega | (simp <;> omega)))⟩
set_option maxHeartbeats 400000 in
theorem rest_at3 (th t : Int) (v1 v2 : Option Nat) (w : World) (ht : 1 ≤ t) (hth : t ≤ th) (h8 : th ≤ 8) (look : ∀ o, (Instr.lookup 76 (.map v1) (.int .i64 t) false).run Try.prog (w.alloc o) = .ok (.int .i64 3) (w.alloc o)) :
    Calls Try.prog 16 #[.agg #[.int .i64 th, .map v1, .map v2], .int .i64 t] w fun e w' => e = .returned (.int .i64 (restv 3 t)) ∧ Below w.heap.size w w' := by
  go_enter Try.func16, Try.ntmps16
  go_wp2_with (go_at_call 30; refine (is_yes th t v1 v2 _ ht hth).mono ?_; rintro e w0 ⟨rfl, hb0⟩)
  go_ret
  refine ⟨by simp [restv, p2]; (try omega), (by repeat' (first | with_reducible exact Below.refl _ _ | with_reducible assumption | with_reducible refine Below.alloc ?_ ?_ _ | with_reducible refine Below.setCell ?_ ?_ _ | with_reducible refine Below.drew ?_ | with_reducible refine below_drewN ?_ _ | with_reducible refine Below.trans ?_ (Below.mono (by with_reducible assumption) ?_) | omega | (simp <;> omega)))⟩
set_option maxHeartbeats 400000 in
theorem rest_at4 (th t : Int) (v1 v2 : Option Nat) (w : World) (ht : 1 ≤ t) (hth : t ≤ th) (h8 : th ≤ 8) (look : ∀ o, (Instr.lookup 76 (.map v1) (.int .i64 t) false).run Try.prog (w.alloc o) = .ok (.int .i64 4) (w.alloc o)) :
    Calls Try.prog 16 #[.agg #[.int .i64 th, .map v1, .map v2], .int .i64 t] w fun e w' => e = .returned (.int .i64 (restv 4 t)) ∧ Below w.heap.size w w' := by
  go_enter Try.func16, Try.ntmps16
  go_wp2_with (go_at_call 30; refine (is_yes th t v1 v2 _ ht hth).mono ?_; rintro e w0 ⟨rfl, hb0⟩)
  go_ret
  refine ⟨by simp [restv, p2]; (try omega), (by repeat' (first | with_reducible exact Below.refl _ _ | with_reducible assumption | with_reducible refine Below.alloc ?_ ?_ _ | with_reducible refine Below.setCell ?_ ?_ _ | with_reducible refine Below.drew ?_ | with_reducible refine below_drewN ?_ _ | with_reducible refine Below.trans ?_ (Below.mono (by with_reducible assumption) ?_) | omega | (simp <;> omega)))⟩
set_option maxHeartbeats 400000 in
theorem rest_at5 (th t : Int) (v1 v2 : Option Nat) (w : World) (ht : 1 ≤ t) (hth : t ≤ th) (h8 : th ≤ 8) (look : ∀ o, (Instr.lookup 76 (.map v1) (.int .i64 t) false).run Try.prog (w.alloc o) = .ok (.int .i64 5) (w.alloc o)) :
    Calls Try.prog 16 #[.agg #[.int .i64 th, .map v1, .map v2], .int .i64 t] w fun e w' => e = .returned (.int .i64 (restv 5 t)) ∧ Below w.heap.size w w' := by
  go_enter Try.func16, Try.ntmps16
  go_wp2_with (go_at_call 30; refine (is_yes th t v1 v2 _ ht hth).mono ?_; rintro e w0 ⟨rfl, hb0⟩)
  go_ret
  refine ⟨by simp [restv, p2]; (try omega), (by repeat' (first | with_reducible exact Below.refl _ _ | with_reducible assumption | with_reducible refine Below.alloc ?_ ?_ _ | with_reducible refine Below.setCell ?_ ?_ _ | with_reducible refine Below.drew ?_ | with_reducible refine below_drewN ?_ _ | with_reducible refine Below.trans ?_ (Below.mono (by with_reducible assumption) ?_) | omega | (simp <;> omega)))⟩
set_option maxHeartbeats 400000 in
theorem rest_at6 (th t : Int) (v1 v2 : Option Nat) (w : World) (ht : 1 ≤ t) (hth : t ≤ th) (h8 : th ≤ 8) (look : ∀ o, (Instr.lookup 76 (.map v1) (.int .i64 t) false).run Try.prog (w.alloc o) = .ok (.int .i64 6) (w.alloc o)) :
    Calls Try.prog 16 #[.agg #[.int .i64 th, .map v1, .map v2], .int .i64 t] w fun e w' => e = .returned (.int .i64 (restv 6 t)) ∧ Below w.heap.size w w' := by
  by_cases hc : (64 : Int) < 64 - 1 + t - 1
  all_goals
    go_enter Try.func16, Try.ntmps16
    go_wp2_with (go_at_call 30; refine (is_yes th t v1 v2 _ ht hth).mono ?_; rintro e w0 ⟨rfl, hb0⟩)
    go_ret
    refine ⟨by simp [restv, p2]; (try omega), (by repeat' (first | with_reducible exact Below.refl _ _ | with_reducible assumption | with_reducible refine Below.alloc ?_ ?_ _ | with_reducible refine Below.setCell ?_ ?_ _ | with_reducible refine Below.drew ?_ | with_reducible refine below_drewN ?_ _ | with_reducible refine Below.trans ?_ (Below.mono (by with_reducible assumption) ?_) | omega | (simp <;> omega)))⟩

set_option maxHeartbeats 400000 in
theorem rest_at0 (th t : Int) (v1 v2 : Option Nat) (w : World) (ht : 1 ≤ t) (hth : t ≤ th) (look : ∀ o, (Instr.lookup 76 (.map v1) (.int .i64 t) false).run Try.prog (w.alloc o) = .ok (.int .i64 0) (w.alloc o)) :
    Calls Try.prog 16 #[.agg #[.int .i64 th, .map v1, .map v2], .int .i64 t] w fun e w' => e = .returned (.int .i64 (restv 0 t)) ∧ Below w.heap.size w w' := by
  go_enter Try.func16, Try.ntmps16
  go_wp2_with (go_at_call 30; refine (is_yes th t v1 v2 _ ht hth).mono ?_; rintro e w0 ⟨rfl, hb0⟩)
  go_ret
  exact ⟨rfl, (by repeat' (first | with_reducible exact Below.refl _ _ | with_reducible assumption | with_reducible refine Below.alloc ?_ ?_ _ | with_reducible refine Below.setCell ?_ ?_ _ | with_reducible refine Below.drew ?_ | with_reducible refine below_drewN ?_ _ | with_reducible refine Below.trans ?_ (Below.mono (by with_reducible assumption) ?_) | omega | (simp <;> omega)))⟩

set_option maxHeartbeats 400000 in
theorem rest_at7 (th t n : Int) (v1 v2 : Option Nat) (w : World) (ht : 1 ≤ t) (hth : t ≤ th) (hn : 7 ≤ n) (look : ∀ o, (Instr.lookup 76 (.map v1) (.int .i64 t) false).run Try.prog (w.alloc o) = .ok (.int .i64 n) (w.alloc o)) :
    Calls Try.prog 16 #[.agg #[.int .i64 th, .map v1, .map v2], .int .i64 t] w fun e w' => e = .returned (.int .i64 (restv n t)) ∧ Below w.heap.size w w' := by
  have hr : restv n t = 64 := by
    unfold restv
    rw [if_neg (by omega), if_neg (by omega)]
  rw [hr]
  clear hr
  have hn0 : (n == 0) = false := by simp; omega
  go_enter Try.func16, Try.ntmps16
  go_wp2_with (go_at_call 30; refine (is_yes th t v1 v2 _ ht hth).mono ?_; rintro e w0 ⟨rfl, hb0⟩)
  go_ret
  exact ⟨rfl, (by repeat' (first | with_reducible exact Below.refl _ _ | with_reducible assumption | with_reducible refine Below.alloc ?_ ?_ _ | with_reducible refine Below.setCell ?_ ?_ _ | with_reducible refine Below.drew ?_ | with_reducible refine below_drewN ?_ _ | with_reducible refine Below.trans ?_ (Below.mono (by with_reducible assumption) ?_) | omega | (simp <;> omega)))⟩

set_option maxHeartbeats 400000 in
theorem rest_out (th t : Int) (v1 v2 : Option Nat) (n : Nat) (f h : Int → Int) (w : World) (ho : t < 1 ∨ th < t) (wt : (Lit.int .i64 t).wf = true) (ha : AdvR w v1 v2 n f h) :
    Calls Try.prog 16 #[.agg #[.int .i64 th, .map v1, .map v2], .int .i64 t] w fun e w' => e = .returned (.int .i64 0) ∧ Below w.heap.size w w' := by
  have look := fun o => look_any (ha.1.alloc o) Try.underlying3 Try.underlying76 wt
  go_enter Try.func16, Try.ntmps16
  go_wp2_with (go_at_call 30; refine (is_no th t v1 v2 _ ho).mono ?_; rintro e w0 ⟨rfl, hb0⟩)
  go_ret
  exact ⟨rfl, (by repeat' (first | with_reducible exact Below.refl _ _ | with_reducible assumption | with_reducible refine Below.alloc ?_ ?_ _ | with_reducible refine Below.setCell ?_ ?_ _ | with_reducible refine Below.drew ?_ | with_reducible refine below_drewN ?_ _ | with_reducible refine Below.trans ?_ (Below.mono (by with_reducible assumption) ?_) | omega | (simp <;> omega)))⟩

theorem rest_in (th t : Int) (v1 v2 : Option Nat) (n : Nat) (f h : Int → Int) (w : World) (ht : 1 ≤ t) (hth : t ≤ th) (h8 : th ≤ 8) (ha : AdvR w v1 v2 n f h) (f0 : 0 ≤ f t) :
    Calls Try.prog 16 #[.agg #[.int .i64 th, .map v1, .map v2], .int .i64 t] w fun e w' => e = .returned (.int .i64 (restv (f t) t)) ∧ Below w.heap.size w w' := by
  have wt : (Lit.int .i64 t).wf = true := WalkArith.wf_i64 (by omega)
  have look := fun o => look_any (ha.1.alloc o) Try.underlying3 Try.underlying76 wt
  generalize f t = m at look f0
  by_cases h7 : 7 ≤ m
  · exact rest_at7 th t m v1 v2 w ht hth h7 look
  have hm : m = 0 ∨ m = 1 ∨ m = 2 ∨ m = 3 ∨ m = 4 ∨ m = 5 ∨ m = 6 := by omega
  rcases hm with rfl | rfl | rfl | rfl | rfl | rfl | rfl
  · exact rest_at0 th t v1 v2 w ht hth look
  · exact rest_at1 th t v1 v2 w ht hth h8 look
  · exact rest_at2 th t v1 v2 w ht hth h8 look
  · exact rest_at3 th t v1 v2 w ht hth h8 look
  · exact rest_at4 th t v1 v2 w ht hth h8 look
  · exact rest_at5 th t v1 v2 w ht hth h8 look
  · exact rest_at6 th t v1 v2 w ht hth h8 look

set_option maxHeartbeats 400000 in
theorem heat_any (th z : Int) (v1 v2 : Option Nat) (n : Nat) (f h : Int → Int) (w : World) (wz : (Lit.int .i64 z).wf = true) (ha : AdvR w v1 v2 n f h) :
    Calls Try.prog 18 #[.agg #[.int .i64 th, .map v1, .map v2], .int .i64 z] w fun e w' => e = .returned (.int .i64 (h z)) ∧ Below w.heap.size w w' := by
  have look := fun o => look_any (ha.2.alloc o) Try.underlying64 Try.underlying77 wz
  go_enter Try.func18, Try.ntmps18
  go_wp2
  go_ret
  exact ⟨rfl, (by repeat' (first | with_reducible exact Below.refl _ _ | with_reducible assumption | with_reducible refine Below.alloc ?_ ?_ _ | with_reducible refine Below.setCell ?_ ?_ _ | with_reducible refine Below.drew ?_ | with_reducible refine below_drewN ?_ _ | with_reducible refine Below.trans ?_ (Below.mono (by with_reducible assumption) ?_) | omega | (simp <;> omega)))⟩

set_option maxHeartbeats 400000 in
theorem anew_ok (n : Int) (w : World) (h1 : 1 ≤ n) (h2 : n ≤ 8) :
    Calls Try.prog 14 #[.int .i64 n] w fun e w' => e = .returned (.tuple #[.agg #[.int .i64 n, .map none, .map none], .int .i64 0]) ∧ Below w.heap.size w w' := by
  go_enter Try.func14, Try.ntmps14
  go_wp2
  exact bodyPost_ret (v := .tuple #[.agg #[.int .i64 n, .map none, .map none], .int .i64 0]) (by simp [results, Try.results14, go_sem]) rfl ⟨rfl, (by repeat' (first | with_reducible exact Below.refl _ _ | with_reducible assumption | with_reducible refine Below.alloc ?_ ?_ _ | with_reducible refine Below.setCell ?_ ?_ _ | with_reducible refine Below.drew ?_ | with_reducible refine below_drewN ?_ _ | with_reducible refine Below.trans ?_ (Below.mono (by with_reducible assumption) ?_) | omega | (simp <;> omega)))⟩
set_option maxHeartbeats 400000 in
theorem anew_no (n : Int) (w : World) (h : n < 1 ∨ 8 < n) :
    Calls Try.prog 14 #[.int .i64 n] w fun e w' => e = .returned (.tuple #[.agg #[.int .i64 0, .map none, .map none], .int .i64 3]) ∧ Below w.heap.size w w' := by
  by_cases h1 : n < 1
  · go_enter Try.func14, Try.ntmps14
    go_wp2
    exact bodyPost_ret (v := .tuple #[.agg #[.int .i64 0, .map none, .map none], .int .i64 3]) (by simp [results, Try.results14, go_sem]) rfl ⟨rfl, (by repeat' (first | with_reducible exact Below.refl _ _ | with_reducible assumption | with_reducible refine Below.alloc ?_ ?_ _ | with_reducible refine Below.setCell ?_ ?_ _ | with_reducible refine Below.drew ?_ | with_reducible refine below_drewN ?_ _ | with_reducible refine Below.trans ?_ (Below.mono (by with_reducible assumption) ?_) | omega | (simp <;> omega)))⟩
  · have h2 : 8 < n := by omega
    go_enter Try.func14, Try.ntmps14
    go_wp2
    exact bodyPost_ret (v := .tuple #[.agg #[.int .i64 0, .map none, .map none], .int .i64 3]) (by simp [results, Try.results14, go_sem]) rfl ⟨rfl, (by repeat' (first | with_reducible exact Below.refl _ _ | with_reducible assumption | with_reducible refine Below.alloc ?_ ?_ _ | with_reducible refine Below.setCell ?_ ?_ _ | with_reducible refine Below.drew ?_ | with_reducible refine below_drewN ?_ _ | with_reducible refine Below.trans ?_ (Below.mono (by with_reducible assumption) ?_) | omega | (simp <;> omega)))⟩
end Go.Proofs.Ytmjkopejbdipcaa
namespace Go.Proofs.Ytmjkopejbdipcaa
set_option linter.unusedSimpArgs false
set_option linter.unusedVariables false
open Go.RowKit Go.Maps

set_option maxHeartbeats 4000000 in
/-- The chapter's example. -/
theorem awake52_any (w : World) : Calls Try.prog 4 #[] w fun e w' => e = .returned (.bool true) ∧ Below w.heap.size w w' := by
  have w5 : (Lit.int .i64 5).wf = true := by decide
  have w6 : (Lit.int .i64 6).wf = true := by decide
  have W5 := hide w5
  have W6 := hide w6
  clear w5 w6
  go_enter Try.func4, Try.ntmps4
  go_wp2_with fail
  refine (anew_ok 2 _ (by omega) (by omega)).mono ?_
  rintro e w1 ⟨rfl, hb1⟩
  have hz1 := hb1.size
  go_wp2_with fail
  refine (fail_yes 2 2 5 none none 0 (fun _ => 0) (fun _ => 0) _ (by omega) (by omega) (by omega) W5.out ⟨MapF.nil _ _ _, MapF.nil _ _ _⟩ (by omega) (by omega) (by omega) (by omega) (by omega)).mono ?_
  rintro e w2 ⟨v1, v2, rfl, ha2, hb2⟩
  obtain ⟨hc2, hf2⟩ := bcell hb2
  have hy2 : w1.heap.size < w2.heap.size := (by have h := hb2.size; (try simp at h); omega)
  go_wp2_with fail
  refine (fail_yes 2 2 6 v1 v2 1 _ _ _ (by omega) (by omega) (by omega) W6.out ha2 (by omega) (by decide) (by decide) (by decide) (by decide)).mono ?_
  rintro e w3 ⟨v3, v4, rfl, ha3, hb3⟩
  obtain ⟨hc3, hf3⟩ := bcell hb3
  have hy3 : w1.heap.size < w3.heap.size := (by have h := hb3.size; (try simp at h); omega)
  obtain ⟨F, H, ha3, hF2, hF1, hH5⟩ : ∃ F H, AdvR w3 v3 v4 2 F H ∧ F 2 = 2 ∧ F 1 = 0 ∧ H 5 = 1 := ⟨_, _, ha3, by decide, by decide, by decide⟩
  have HF2 := hide hF2
  have HF1 := hide hF1
  have HH5 := hide hH5
  clear hF2 hF1 hH5
  go_wp2_with fail
  refine (rest_in 2 2 v3 v4 2 F H _ (by omega) (by omega) (by omega) (ha3.below (by repeat' (first | with_reducible exact Below.refl _ _ | with_reducible assumption | with_reducible refine Below.alloc ?_ ?_ _ | with_reducible refine Below.setCell ?_ ?_ _ | with_reducible refine Below.drew ?_ | with_reducible refine below_drewN ?_ _ | with_reducible refine Below.trans ?_ (Below.mono (by with_reducible assumption) ?_) | omega | (simp <;> omega)))) (by rw [HF2.out]; decide)).mono ?_
  rintro e w4 ⟨rfl, hb4⟩
  rw [HF2.out, show restv 2 2 = 4 from by decide]
  obtain ⟨hc4, hf4⟩ := bcell hb4
  have hw4_0 : w1.heap.size < w4.heap.size := (by have h := hb4.size; (try simp at h); omega)
  have hw4_1 : w3.heap.size < w4.heap.size := (by have h := hb4.size; (try simp at h); omega)
  go_wp2_with fail
  refine (rest_in 2 1 v3 v4 2 F H _ (by omega) (by omega) (by omega) (ha3.below (by repeat' (first | with_reducible exact Below.refl _ _ | with_reducible assumption | with_reducible refine Below.alloc ?_ ?_ _ | with_reducible refine Below.setCell ?_ ?_ _ | with_reducible refine Below.drew ?_ | with_reducible refine below_drewN ?_ _ | with_reducible refine Below.trans ?_ (Below.mono (by with_reducible assumption) ?_) | omega | (simp <;> omega)))) (by rw [HF1.out]; decide)).mono ?_
  rintro e w5 ⟨rfl, hb5⟩
  rw [HF1.out, show restv 0 1 = 0 from by decide]
  obtain ⟨hc5, hf5⟩ := bcell hb5
  have hw5_0 : w1.heap.size < w5.heap.size := (by have h := hb5.size; (try simp at h); omega)
  have hw5_1 : w3.heap.size < w5.heap.size := (by have h := hb5.size; (try simp at h); omega)
  go_wp2_with fail
  refine (win_yes 2 2 v3 v4 2 F H _ (by omega) (by omega) (by omega) (ha3.below (by repeat' (first | with_reducible exact Below.refl _ _ | with_reducible assumption | with_reducible refine Below.alloc ?_ ?_ _ | with_reducible refine Below.setCell ?_ ?_ _ | with_reducible refine Below.drew ?_ | with_reducible refine below_drewN ?_ _ | with_reducible refine Below.trans ?_ (Below.mono (by with_reducible assumption) ?_) | omega | (simp <;> omega))))).mono ?_
  rintro e w6 ⟨v5, rfl, ha5, hb6⟩
  obtain ⟨hc6, hf6⟩ := bcell hb6
  have hw6_0 : w1.heap.size < w6.heap.size := (by have h := hb6.size; (try simp at h); omega)
  have hw6_1 : w3.heap.size < w6.heap.size := (by have h := hb6.size; (try simp at h); omega)
  go_wp2_with fail
  refine (rest_in 2 2 v5 v4 2 _ _ _ (by omega) (by omega) (by omega) (ha5.below (by repeat' (first | with_reducible exact Below.refl _ _ | with_reducible assumption | with_reducible refine Below.alloc ?_ ?_ _ | with_reducible refine Below.setCell ?_ ?_ _ | with_reducible refine Below.drew ?_ | with_reducible refine below_drewN ?_ _ | with_reducible refine Below.trans ?_ (Below.mono (by with_reducible assumption) ?_) | omega | (simp <;> omega)))) (by rw [upd_same]; decide)).mono ?_
  rintro e w7 ⟨rfl, hb7⟩
  rw [upd_same, show restv 0 2 = 0 from by decide]
  obtain ⟨hc7, hf7⟩ := bcell hb7
  have hw7_0 : w1.heap.size < w7.heap.size := (by have h := hb7.size; (try simp at h); omega)
  have hw7_1 : w3.heap.size < w7.heap.size := (by have h := hb7.size; (try simp at h); omega)
  go_wp2_with fail
  refine (heat_any 2 5 v3 v4 2 F H _ W5.out (ha3.below (by repeat' (first | with_reducible exact Below.refl _ _ | with_reducible assumption | with_reducible refine Below.alloc ?_ ?_ _ | with_reducible refine Below.setCell ?_ ?_ _ | with_reducible refine Below.drew ?_ | with_reducible refine below_drewN ?_ _ | with_reducible refine Below.trans ?_ (Below.mono (by with_reducible assumption) ?_) | omega | (simp <;> omega))))).mono ?_
  rintro e w8 ⟨rfl, hb8⟩
  rw [HH5.out]
  obtain ⟨hc8, hf8⟩ := bcell hb8
  have hw8_0 : w1.heap.size < w8.heap.size := (by have h := hb8.size; (try simp at h); omega)
  have hw8_1 : w3.heap.size < w8.heap.size := (by have h := hb8.size; (try simp at h); omega)
  go_wp2_with fail
  refine (heat_any 2 5 none none 0 (fun _ => 0) (fun _ => 0) _ W5.out ⟨MapF.nil _ _ _, MapF.nil _ _ _⟩).mono ?_
  rintro e w9 ⟨rfl, hb9⟩
  obtain ⟨hc9, hf9⟩ := bcell hb9
  have hw9_0 : w1.heap.size < w9.heap.size := (by have h := hb9.size; (try simp at h); omega)
  have hw9_1 : w3.heap.size < w9.heap.size := (by have h := hb9.size; (try simp at h); omega)
  go_wp2
  go_ret
  exact ⟨rfl, (by repeat' (first | with_reducible exact Below.refl _ _ | with_reducible assumption | with_reducible refine Below.alloc ?_ ?_ _ | with_reducible refine Below.setCell ?_ ?_ _ | with_reducible refine Below.drew ?_ | with_reducible refine below_drewN ?_ _ | with_reducible refine Below.trans ?_ (Below.mono (by with_reducible assumption) ?_) | omega | (simp <;> omega)))⟩
end Go.Proofs.Ytmjkopejbdipcaa
namespace Go.Proofs.Ytmjkopejbdipcaa
set_option linter.unusedSimpArgs false
set_option linter.unusedVariables false
open Go.RowKit


theorem check_any (n : Int) (w : World) :
    Calls Try.prog 36 #[.agg #[.int .i64 0, .int .i64 0, .int .i64 n]] w fun e w' => e = .returned (.int .i64 0) ∧ Below w.heap.size w w' := by
  go_enter Try.func36, Try.ntmps36
  go_wp2
  go_ret
  exact ⟨rfl, (by repeat' (first | with_reducible exact Below.refl _ _ | with_reducible assumption | with_reducible refine Below.alloc ?_ ?_ _ | with_reducible refine Below.setCell ?_ ?_ _ | with_reducible refine Below.drew ?_ | with_reducible refine below_drewN ?_ _ | with_reducible refine Below.trans ?_ (Below.mono (by with_reducible assumption) ?_) | omega | (simp <;> omega)))⟩

theorem add_any (v n : Int) (w : World) :
    Calls Try.prog 112 #[.int .i64 v, .int .i64 n] w fun e w' => e = .returned (.int .i64 (wrap64 (v + n))) ∧ w = w' := by
  go_enter Try.func112, Try.ntmps112
  go_wp2
  go_ret
  exact ⟨rfl, rfl⟩

/-- The table of the kinds' functions. -/
def Mk : Value := .agg #[.func (Fn.func 112) #[] #[], .func (Fn.func 113) #[] #[], .func (Fn.func 114) #[] #[], .func (Fn.func 115) #[] #[]]
theorem makes_any (w : World) :
    Calls Try.prog 111 #[] w fun e w' => e = .returned Mk ∧ Below w.heap.size w w' := by
  go_enter Try.func111, Try.ntmps111
  go_wp2
  exact bodyPost_ret (v := Mk) (by simp [Mk, results, Try.results111, go_sem]) rfl ⟨rfl, (by repeat' (first | with_reducible exact Below.refl _ _ | with_reducible assumption | with_reducible refine Below.alloc ?_ ?_ _ | with_reducible refine Below.setCell ?_ ?_ _ | with_reducible refine Below.drew ?_ | with_reducible refine below_drewN ?_ _ | with_reducible refine Below.trans ?_ (Below.mono (by with_reducible assumption) ?_) | omega | (simp <;> omega)))⟩
theorem index_Mk (w : World) : (Instr.index 201 Mk (.int .i64 0)).run Try.prog w = .ok (.func (Fn.func 112) #[] #[]) w := by kernel_rfl

theorem do_any (v n : Int) (w : World) :
    Calls Try.prog 110 #[.agg #[.int .i64 0, .int .i64 0, .int .i64 n], .int .i64 v] w fun e w' => e = .returned (.tuple #[.int .i64 (wrap64 (v + n)), .int .i64 v]) ∧ Below w.heap.size w w' := by
  have hix := index_Mk
  go_enter Try.func110, Try.ntmps110
  go_wp2_with fail
  refine (check_any n _).mono ?_
  rintro e w1 ⟨rfl, hb1⟩
  obtain ⟨hcc1, hff1⟩ := bcell hb1; have hs1 := hb1.size; (try simp at hs1); have hz1 : w.heap.size < w1.heap.size := (by omega)
  have k0 : w1.cell? ⟨w.heap.size, 0, none⟩ = some (.int .i64 0) := by go_simp
  have k2 : w1.cell? ⟨w.heap.size, 2, none⟩ = some (.int .i64 n) := by go_simp
  go_wp2_with fail
  go_region_held3 (fun w' => w'.cell? ⟨w.heap.size, 0, none⟩ = some (.int .i64 0) ∧ w'.cell? ⟨w.heap.size, 2, none⟩ = some (.int .i64 n))
    (first | exact ⟨by go_simp, by go_simp⟩ | go_keep)
    (first
      | (go_at_call 111; refine (makes_any _).mono ?_; rintro e w2 ⟨rfl, hb2'⟩; have hb2 : Below _ _ w2 := (by first | with_reducible exact noDrew hb2' | exact hb2'); clear hb2'; obtain ⟨hcc2, hff2⟩ := bcell hb2; have hs2 := hb2.size; have hz2 : w.heap.size < w2.heap.size := (by omega))
      | (go_at_call 112; refine (add_any _ _ _).mono ?_; rintro e w3 ⟨rfl, rfl⟩))
  all_goals go_wp2
  all_goals go_ret2
  all_goals exact ⟨rfl, (by repeat' (first | with_reducible exact Below.refl _ _ | with_reducible assumption | with_reducible refine Below.alloc ?_ ?_ _ | with_reducible refine Below.setCell ?_ ?_ _ | with_reducible refine Below.drew ?_ | with_reducible refine below_drewN ?_ _ | with_reducible refine Below.trans ?_ (Below.mono (by with_reducible assumption) ?_) | omega | (simp <;> omega)))⟩

theorem new_any (n : Int) (w : World) :
    Calls Try.prog 21 #[.agg #[.int .i64 0, .int .i64 0, .int .i64 n]] w fun e w' => e = .returned (.tuple #[.iface 104 (.agg #[.int .i64 0, .int .i64 0, .int .i64 n, .bool false, .bool false, .bool false, .int .i64 0, .int .i64 0]), .int .i64 0]) ∧ Below w.heap.size w w' := by
  go_enter Try.func21, Try.ntmps21
  go_wp2_with fail
  refine (check_any n _).mono ?_
  rintro e w1 ⟨rfl, hb1⟩
  obtain ⟨hcc1, hff1⟩ := bcell hb1; have hs1 := hb1.size; (try simp at hs1); have hz1 : w.heap.size < w1.heap.size := (by omega)
  go_wp2
  go_ret2
  exact ⟨rfl, (by repeat' (first | with_reducible exact Below.refl _ _ | with_reducible assumption | with_reducible refine Below.alloc ?_ ?_ _ | with_reducible refine Below.setCell ?_ ?_ _ | with_reducible refine Below.drew ?_ | with_reducible refine below_drewN ?_ _ | with_reducible refine Below.trans ?_ (Below.mono (by with_reducible assumption) ?_) | omega | (simp <;> omega)))⟩

theorem code_any (n : Int) (w : World) (h0 : -128 ≤ n) (h1 : n ≤ 127) :
    Calls Try.prog 6 #[.int .i8 n] w fun e w' => e = .returned (.tuple #[.iface 104 (.agg #[.int .i64 0, .int .i64 0, .int .i64 n, .bool false, .bool false, .bool false, .int .i64 0, .int .i64 0]), .bool true]) ∧ Below w.heap.size w w' := by
  have hw : IntKind.i64.wrap n = n := IntWalk.i64_in _ (by omega)
  have hw2 : wrap64 n = n := by unfold wrap64; omega
  go_enter Try.func6, Try.ntmps6
  go_wp2_with fail
  refine (new_any n _).mono ?_
  rintro e w1 ⟨rfl, hb1⟩
  go_wp2
  go_ret2
  exact ⟨rfl, (by repeat' (first | with_reducible exact Below.refl _ _ | with_reducible assumption | with_reducible refine Below.alloc ?_ ?_ _ | with_reducible refine Below.setCell ?_ ?_ _ | with_reducible refine Below.drew ?_ | with_reducible refine below_drewN ?_ _ | with_reducible refine Below.trans ?_ (Below.mono (by with_reducible assumption) ?_) | omega | (simp <;> omega)))⟩

theorem ta_code (v : Value) (w : World) : (Instr.typeAssert (.iface 104 v) 47 104 true).run Try.prog w = .ok (.tuple #[v, .bool true]) w := by kernel_rfl
theorem ta_wr (v : Value) (w : World) : (Instr.typeAssert (.iface 95 v) 47 95 true).run Try.prog w = .ok (.tuple #[v, .bool true]) w := by kernel_rfl
theorem ta_wr_no (v : Value) (w : World) : (Instr.typeAssert (.iface 104 v) 47 95 true).run Try.prog w = .ok (.tuple #[.agg #[.nilIface, .int .i64 0, .bool false], .bool false]) w := by kernel_rfl
theorem ta_wr_nil (w : World) : (Instr.typeAssert .nilIface 47 95 true).run Try.prog w = .ok (.tuple #[.agg #[.nilIface, .int .i64 0, .bool false], .bool false]) w := by kernel_rfl

theorem answer_any (n t a : Int) (b s d : Bool) (w : World) :
    Calls Try.prog 11 #[.iface 104 (.agg #[.int .i64 0, .int .i64 0, .int .i64 n, .bool b, .bool s, .bool d, .int .i64 t, .int .i64 a])] w fun e w' => e = .returned (.tuple #[.int .i64 (if d then a else 0), .bool d]) ∧ Below w.heap.size w w' := by
  have hta := ta_code
  cases d with
  | false =>
    go_enter Try.func11, Try.ntmps11
    go_wp2
    go_ret2
    exact ⟨rfl, (by repeat' (first | with_reducible exact Below.refl _ _ | with_reducible assumption | with_reducible refine Below.alloc ?_ ?_ _ | with_reducible refine Below.setCell ?_ ?_ _ | with_reducible refine Below.drew ?_ | with_reducible refine below_drewN ?_ _ | with_reducible refine Below.trans ?_ (Below.mono (by with_reducible assumption) ?_) | omega | (simp <;> omega)))⟩
  | true =>
    go_enter Try.func11, Try.ntmps11
    go_wp2
    go_ret2
    exact ⟨rfl, (by repeat' (first | with_reducible exact Below.refl _ _ | with_reducible assumption | with_reducible refine Below.alloc ?_ ?_ _ | with_reducible refine Below.setCell ?_ ?_ _ | with_reducible refine Below.drew ?_ | with_reducible refine below_drewN ?_ _ | with_reducible refine Below.trans ?_ (Below.mono (by with_reducible assumption) ?_) | omega | (simp <;> omega)))⟩
end Go.Proofs.Ytmjkopejbdipcaa
namespace Go.Proofs.Ytmjkopejbdipcaa
set_option linter.unusedSimpArgs false
set_option linter.unusedVariables false
open Go.RowKit

theorem next_done (n t a v r f : Int) (b s k : Bool) (w : World) :
    Calls Try.prog 109 #[(.agg #[.int .i64 0, .int .i64 0, .int .i64 n, .bool b, .bool s, .bool true, .int .i64 t, .int .i64 a]), (.agg #[.int .i64 v, .int .u32 r, .int .u32 f, .bool k])] w fun e w' => e = .returned (.tuple #[.iface 104 (.agg #[.int .i64 0, .int .i64 0, .int .i64 n, .bool b, .bool s, .bool true, .int .i64 t, .int .i64 a]), (.agg #[.int .i64 0, .int .i64 0, .int .i64 0, .int .u32 0, .int .u32 0, .int .i64 0, .int .u32 0, .int .u32 0]), .bool true]) ∧ Below w.heap.size w w' := by
  go_enter Try.func109, Try.ntmps109
  go_wp2
  exact bodyPost_ret (v := .tuple #[.iface 104 (.agg #[.int .i64 0, .int .i64 0, .int .i64 n, .bool b, .bool s, .bool true, .int .i64 t, .int .i64 a]), (.agg #[.int .i64 0, .int .i64 0, .int .i64 0, .int .u32 0, .int .u32 0, .int .i64 0, .int .u32 0, .int .u32 0]), .bool true]) (by simp [results, Try.results109, go_sem]) rfl ⟨rfl, (by repeat' (first | with_reducible exact Below.refl _ _ | with_reducible assumption | with_reducible refine Below.alloc ?_ ?_ _ | with_reducible refine Below.setCell ?_ ?_ _ | with_reducible refine Below.drew ?_ | with_reducible refine below_drewN ?_ _ | with_reducible refine Below.trans ?_ (Below.mono (by with_reducible assumption) ?_) | omega | (simp <;> omega)))⟩

theorem next_first (n t a v r f : Int) (s k : Bool) (w : World) :
    Calls Try.prog 109 #[(.agg #[.int .i64 0, .int .i64 0, .int .i64 n, .bool false, .bool s, .bool false, .int .i64 t, .int .i64 a]), (.agg #[.int .i64 v, .int .u32 r, .int .u32 f, .bool k])] w fun e w' => e = .returned (.tuple #[.iface 104 (.agg #[.int .i64 0, .int .i64 0, .int .i64 n, .bool true, .bool s, .bool false, .int .i64 t, .int .i64 a]), (.agg #[.int .i64 5, .int .i64 0, .int .i64 0, .int .u32 0, .int .u32 0, .int .i64 0, .int .u32 0, .int .u32 0]), .bool false]) ∧ Below w.heap.size w w' := by
  go_enter Try.func109, Try.ntmps109
  go_wp2
  go_region
  all_goals go_wp2
  all_goals exact bodyPost_ret (v := .tuple #[.iface 104 (.agg #[.int .i64 0, .int .i64 0, .int .i64 n, .bool true, .bool s, .bool false, .int .i64 t, .int .i64 a]), (.agg #[.int .i64 5, .int .i64 0, .int .i64 0, .int .u32 0, .int .u32 0, .int .i64 0, .int .u32 0, .int .u32 0]), .bool false]) (by simp [results, Try.results109, go_sem]) rfl ⟨rfl, (by repeat' (first | with_reducible exact Below.refl _ _ | with_reducible assumption | with_reducible refine Below.alloc ?_ ?_ _ | with_reducible refine Below.setCell ?_ ?_ _ | with_reducible refine Below.drew ?_ | with_reducible refine below_drewN ?_ _ | with_reducible refine Below.trans ?_ (Below.mono (by with_reducible assumption) ?_) | omega | (simp <;> omega)))⟩

theorem next_ok (n t a v r f : Int) (w : World) (h0 : 0 ≤ t) (h1 : t ≤ 1000000) :
    Calls Try.prog 109 #[(.agg #[.int .i64 0, .int .i64 0, .int .i64 n, .bool true, .bool true, .bool false, .int .i64 t, .int .i64 a]), (.agg #[.int .i64 v, .int .u32 r, .int .u32 f, .bool true])] w fun e w' => e = .returned (.tuple #[.iface 104 (.agg #[.int .i64 0, .int .i64 0, .int .i64 n, .bool true, .bool true, .bool true, .int .i64 (t + 1), .int .i64 v]), (.agg #[.int .i64 0, .int .i64 0, .int .i64 0, .int .u32 0, .int .u32 0, .int .i64 0, .int .u32 0, .int .u32 0]), .bool true]) ∧ Below w.heap.size w w' := by
  go_enter Try.func109, Try.ntmps109
  go_wp2
  go_region
  all_goals go_wp2
  all_goals exact bodyPost_ret (v := .tuple #[.iface 104 (.agg #[.int .i64 0, .int .i64 0, .int .i64 n, .bool true, .bool true, .bool true, .int .i64 (t + 1), .int .i64 v]), (.agg #[.int .i64 0, .int .i64 0, .int .i64 0, .int .u32 0, .int .u32 0, .int .i64 0, .int .u32 0, .int .u32 0]), .bool true]) (by simp [results, Try.results109, go_sem]) rfl ⟨rfl, (by repeat' (first | with_reducible exact Below.refl _ _ | with_reducible assumption | with_reducible refine Below.alloc ?_ ?_ _ | with_reducible refine Below.setCell ?_ ?_ _ | with_reducible refine Below.drew ?_ | with_reducible refine below_drewN ?_ _ | with_reducible refine Below.trans ?_ (Below.mono (by with_reducible assumption) ?_) | omega | (simp <;> omega)))⟩
set_option maxHeartbeats 1000000 in
theorem next_one_same (n t a v r f : Int) (k : Bool) (w : World) (_h0 : 0 ≤ t) (_h1 : t ≤ 1000000) (hm : wrap64 (v + n) = v) :
    Calls Try.prog 109 #[(.agg #[.int .i64 0, .int .i64 0, .int .i64 n, .bool true, .bool false, .bool false, .int .i64 t, .int .i64 a]), (.agg #[.int .i64 v, .int .u32 r, .int .u32 f, .bool k])] w fun e w' => e = .returned (.tuple #[.iface 104 (.agg #[.int .i64 0, .int .i64 0, .int .i64 n, .bool true, .bool false, .bool true, .int .i64 t, .int .i64 v]), (.agg #[.int .i64 0, .int .i64 0, .int .i64 0, .int .u32 0, .int .u32 0, .int .i64 0, .int .u32 0, .int .u32 0]), .bool true]) ∧ Below w.heap.size w w' := by
  have HM := hide hm
  clear hm
  go_enter Try.func109, Try.ntmps109
  go_wp2_with fail
  refine (do_any v n _).mono ?_
  rintro e w1 ⟨rfl, hb1⟩
  rw [HM.out]
  obtain ⟨hcc1, hff1⟩ := bcell hb1; have hs1 := hb1.size; (try simp at hs1); have hz1 : w.heap.size < w1.heap.size := (by omega)
  have hz2 : w.heap.size + 1 < w1.heap.size := by omega
  have hz3 : w.heap.size + 1 + 1 < w1.heap.size := by omega
  have k0 : w1.cell? ⟨w.heap.size, 0, none⟩ = some (.int .i64 0) := by go_simp
  have k1 : w1.cell? ⟨w.heap.size, 1, none⟩ = some (.int .i64 0) := by go_simp
  have k2 : w1.cell? ⟨w.heap.size, 2, none⟩ = some (.int .i64 n) := by go_simp
  have k3 : w1.cell? ⟨w.heap.size, 3, none⟩ = some (.bool true) := by go_simp
  have k4 : w1.cell? ⟨w.heap.size, 4, none⟩ = some (.bool false) := by go_simp
  have k5 : w1.cell? ⟨w.heap.size, 5, none⟩ = some (.bool false) := by go_simp
  have k6 : w1.cell? ⟨w.heap.size, 6, none⟩ = some (.int .i64 t) := by go_simp
  have k7 : w1.cell? ⟨w.heap.size, 7, none⟩ = some (.int .i64 a) := by go_simp
  have g0 : w1.cell? ⟨w.heap.size + 1, 0, none⟩ = some (.int .i64 v) := by go_simp
  have g1 : w1.cell? ⟨w.heap.size + 1, 1, none⟩ = some (.int .u32 r) := by go_simp
  have g2 : w1.cell? ⟨w.heap.size + 1, 2, none⟩ = some (.int .u32 f) := by go_simp
  have g3 : w1.cell? ⟨w.heap.size + 1, 3, none⟩ = some (.bool k) := by go_simp
  have a0 : w1.cell? ⟨w.heap.size + 1 + 1, 0, none⟩ = some (.int .i64 0) := by go_simp
  have a1 : w1.cell? ⟨w.heap.size + 1 + 1, 1, none⟩ = some (.int .i64 0) := by go_simp
  have a2 : w1.cell? ⟨w.heap.size + 1 + 1, 2, none⟩ = some (.int .i64 0) := by go_simp
  have a3 : w1.cell? ⟨w.heap.size + 1 + 1, 3, none⟩ = some (.int .u32 0) := by go_simp
  have a4 : w1.cell? ⟨w.heap.size + 1 + 1, 4, none⟩ = some (.int .u32 0) := by go_simp
  have a5 : w1.cell? ⟨w.heap.size + 1 + 1, 5, none⟩ = some (.int .i64 0) := by go_simp
  have a6 : w1.cell? ⟨w.heap.size + 1 + 1, 6, none⟩ = some (.int .u32 0) := by go_simp
  have a7 : w1.cell? ⟨w.heap.size + 1 + 1, 7, none⟩ = some (.int .u32 0) := by go_simp
  have hB1 : Below w.heap.size w w1 := (by repeat' (first | with_reducible exact Below.refl _ _ | with_reducible assumption | with_reducible refine Below.alloc ?_ ?_ _ | with_reducible refine Below.setCell ?_ ?_ _ | with_reducible refine Below.drew ?_ | with_reducible refine below_drewN ?_ _ | with_reducible refine Below.trans ?_ (Below.mono (by with_reducible assumption) ?_) | omega | (simp <;> omega)))
  have q3 : w1.frozen? ⟨w.heap.size, 3, none⟩ = false := by go_simp
  have q4 : w1.frozen? ⟨w.heap.size, 4, none⟩ = false := by go_simp
  have q5 : w1.frozen? ⟨w.heap.size, 7, none⟩ = false := by go_simp
  have q6 : w1.frozen? ⟨w.heap.size, 5, none⟩ = false := by go_simp
  have p0 : ∀ o, w1.frozen? ⟨w.heap.size + 1 + 1, o, none⟩ = false := fun o => by rw [hff1 _ _ (by simp)]; exact World.frozen?_alloc_at _ _ _ _ (by simp)
  clear hcc1 hff1 hb1
  go_wp2
  exact bodyPost_ret (v := .tuple #[.iface 104 (.agg #[.int .i64 0, .int .i64 0, .int .i64 n, .bool true, .bool false, .bool true, .int .i64 t, .int .i64 v]), (.agg #[.int .i64 0, .int .i64 0, .int .i64 0, .int .u32 0, .int .u32 0, .int .i64 0, .int .u32 0, .int .u32 0]), .bool true]) (by simp [results, Try.results109, go_sem, a0, a1, a2, a3, a4, a5, a6, a7, k0, k1, k2, k3, k4, k5, k6, k7]) rfl ⟨rfl, (by repeat' (first | with_reducible exact Below.refl _ _ | with_reducible assumption | with_reducible refine Below.alloc ?_ ?_ _ | with_reducible refine Below.setCell ?_ ?_ _ | with_reducible refine Below.drew ?_ | with_reducible refine below_drewN ?_ _ | with_reducible refine Below.trans ?_ (Below.mono (by with_reducible assumption) ?_) | omega | (simp <;> omega)))⟩

set_option maxHeartbeats 1000000 in
theorem next_one_swap (n t a v r f : Int) (k : Bool) (w : World) (_h0 : 0 ≤ t) (_h1 : t ≤ 1000000) (hm : ¬ wrap64 (v + n) = v) :
    Calls Try.prog 109 #[(.agg #[.int .i64 0, .int .i64 0, .int .i64 n, .bool true, .bool false, .bool false, .int .i64 t, .int .i64 a]), (.agg #[.int .i64 v, .int .u32 r, .int .u32 f, .bool k])] w fun e w' => e = .returned (.tuple #[.iface 104 (.agg #[.int .i64 0, .int .i64 0, .int .i64 n, .bool true, .bool true, .bool false, .int .i64 t, .int .i64 a]), (.agg #[.int .i64 6, .int .i64 0, .int .i64 v, .int .u32 r, .int .u32 f, .int .i64 (wrap64 (v + n)), .int .u32 r, .int .u32 f]), .bool false]) ∧ Below w.heap.size w w' := by
  have hm2 : (wrap64 (v + n) == v) = false := by simpa using hm
  obtain ⟨m, hmm⟩ : ∃ m, m = wrap64 (v + n) := ⟨_, rfl⟩
  rw [← hmm] at hm2
  have HM := hide hmm
  clear hmm hm
  rw [← HM.out]
  go_enter Try.func109, Try.ntmps109
  go_wp2_with fail
  refine (do_any v n _).mono ?_
  rintro e w1 ⟨rfl, hb1⟩
  rw [← HM.out]
  obtain ⟨hcc1, hff1⟩ := bcell hb1; have hs1 := hb1.size; (try simp at hs1); have hz1 : w.heap.size < w1.heap.size := (by omega)
  have hz2 : w.heap.size + 1 < w1.heap.size := by omega
  have hz3 : w.heap.size + 1 + 1 < w1.heap.size := by omega
  have k0 : w1.cell? ⟨w.heap.size, 0, none⟩ = some (.int .i64 0) := by go_simp
  have k1 : w1.cell? ⟨w.heap.size, 1, none⟩ = some (.int .i64 0) := by go_simp
  have k2 : w1.cell? ⟨w.heap.size, 2, none⟩ = some (.int .i64 n) := by go_simp
  have k3 : w1.cell? ⟨w.heap.size, 3, none⟩ = some (.bool true) := by go_simp
  have k4 : w1.cell? ⟨w.heap.size, 4, none⟩ = some (.bool false) := by go_simp
  have k5 : w1.cell? ⟨w.heap.size, 5, none⟩ = some (.bool false) := by go_simp
  have k6 : w1.cell? ⟨w.heap.size, 6, none⟩ = some (.int .i64 t) := by go_simp
  have k7 : w1.cell? ⟨w.heap.size, 7, none⟩ = some (.int .i64 a) := by go_simp
  have g0 : w1.cell? ⟨w.heap.size + 1, 0, none⟩ = some (.int .i64 v) := by go_simp
  have g1 : w1.cell? ⟨w.heap.size + 1, 1, none⟩ = some (.int .u32 r) := by go_simp
  have g2 : w1.cell? ⟨w.heap.size + 1, 2, none⟩ = some (.int .u32 f) := by go_simp
  have g3 : w1.cell? ⟨w.heap.size + 1, 3, none⟩ = some (.bool k) := by go_simp
  have a0 : w1.cell? ⟨w.heap.size + 1 + 1, 0, none⟩ = some (.int .i64 0) := by go_simp
  have a1 : w1.cell? ⟨w.heap.size + 1 + 1, 1, none⟩ = some (.int .i64 0) := by go_simp
  have a2 : w1.cell? ⟨w.heap.size + 1 + 1, 2, none⟩ = some (.int .i64 0) := by go_simp
  have a3 : w1.cell? ⟨w.heap.size + 1 + 1, 3, none⟩ = some (.int .u32 0) := by go_simp
  have a4 : w1.cell? ⟨w.heap.size + 1 + 1, 4, none⟩ = some (.int .u32 0) := by go_simp
  have a5 : w1.cell? ⟨w.heap.size + 1 + 1, 5, none⟩ = some (.int .i64 0) := by go_simp
  have a6 : w1.cell? ⟨w.heap.size + 1 + 1, 6, none⟩ = some (.int .u32 0) := by go_simp
  have a7 : w1.cell? ⟨w.heap.size + 1 + 1, 7, none⟩ = some (.int .u32 0) := by go_simp
  have hB1 : Below w.heap.size w w1 := (by repeat' (first | with_reducible exact Below.refl _ _ | with_reducible assumption | with_reducible refine Below.alloc ?_ ?_ _ | with_reducible refine Below.setCell ?_ ?_ _ | with_reducible refine Below.drew ?_ | with_reducible refine below_drewN ?_ _ | with_reducible refine Below.trans ?_ (Below.mono (by with_reducible assumption) ?_) | omega | (simp <;> omega)))
  have q3 : w1.frozen? ⟨w.heap.size, 3, none⟩ = false := by go_simp
  have q4 : w1.frozen? ⟨w.heap.size, 4, none⟩ = false := by go_simp
  have q5 : w1.frozen? ⟨w.heap.size, 7, none⟩ = false := by go_simp
  have q6 : w1.frozen? ⟨w.heap.size, 5, none⟩ = false := by go_simp
  have p0 : ∀ o, w1.frozen? ⟨w.heap.size + 1 + 1, o, none⟩ = false := fun o => by rw [hff1 _ _ (by simp)]; exact World.frozen?_alloc_at _ _ _ _ (by simp)
  clear hcc1 hff1 hb1
  go_wp2
  go_region
  all_goals go_wp2
  all_goals exact bodyPost_ret (v := .tuple #[.iface 104 (.agg #[.int .i64 0, .int .i64 0, .int .i64 n, .bool true, .bool true, .bool false, .int .i64 t, .int .i64 a]), (.agg #[.int .i64 6, .int .i64 0, .int .i64 v, .int .u32 r, .int .u32 f, .int .i64 m, .int .u32 r, .int .u32 f]), .bool false]) (by simp [results, Try.results109, go_sem, a0, a1, a2, a3, a4, a5, a6, a7, hz3]) rfl ⟨rfl, (by repeat' (first | with_reducible exact Below.refl _ _ | with_reducible assumption | with_reducible refine Below.alloc ?_ ?_ _ | with_reducible refine Below.setCell ?_ ?_ _ | with_reducible refine Below.drew ?_ | with_reducible refine below_drewN ?_ _ | with_reducible refine Below.trans ?_ (Below.mono (by with_reducible assumption) ?_) | omega | (simp <;> omega)))⟩

set_option maxHeartbeats 1000000 in
theorem next_two_same (n t a v r f : Int) (w : World) (_h0 : 0 ≤ t) (_h1 : t ≤ 1000000) (hm : wrap64 (v + n) = v) :
    Calls Try.prog 109 #[(.agg #[.int .i64 0, .int .i64 0, .int .i64 n, .bool true, .bool true, .bool false, .int .i64 t, .int .i64 a]), (.agg #[.int .i64 v, .int .u32 r, .int .u32 f, .bool false])] w fun e w' => e = .returned (.tuple #[.iface 104 (.agg #[.int .i64 0, .int .i64 0, .int .i64 n, .bool true, .bool true, .bool true, .int .i64 (t + 1), .int .i64 v]), (.agg #[.int .i64 0, .int .i64 0, .int .i64 0, .int .u32 0, .int .u32 0, .int .i64 0, .int .u32 0, .int .u32 0]), .bool true]) ∧ Below w.heap.size w w' := by
  have HM := hide hm
  clear hm
  go_enter Try.func109, Try.ntmps109
  go_wp2_with fail
  refine (do_any v n _).mono ?_
  rintro e w1 ⟨rfl, hb1⟩
  rw [HM.out]
  obtain ⟨hcc1, hff1⟩ := bcell hb1; have hs1 := hb1.size; (try simp at hs1); have hz1 : w.heap.size < w1.heap.size := (by omega)
  have hz2 : w.heap.size + 1 < w1.heap.size := by omega
  have hz3 : w.heap.size + 1 + 1 < w1.heap.size := by omega
  have k0 : w1.cell? ⟨w.heap.size, 0, none⟩ = some (.int .i64 0) := by go_simp
  have k1 : w1.cell? ⟨w.heap.size, 1, none⟩ = some (.int .i64 0) := by go_simp
  have k2 : w1.cell? ⟨w.heap.size, 2, none⟩ = some (.int .i64 n) := by go_simp
  have k3 : w1.cell? ⟨w.heap.size, 3, none⟩ = some (.bool true) := by go_simp
  have k4 : w1.cell? ⟨w.heap.size, 4, none⟩ = some (.bool true) := by go_simp
  have k5 : w1.cell? ⟨w.heap.size, 5, none⟩ = some (.bool false) := by go_simp
  have k6 : w1.cell? ⟨w.heap.size, 6, none⟩ = some (.int .i64 (t + 1)) := by go_simp
  have k7 : w1.cell? ⟨w.heap.size, 7, none⟩ = some (.int .i64 a) := by go_simp
  have g0 : w1.cell? ⟨w.heap.size + 1, 0, none⟩ = some (.int .i64 v) := by go_simp
  have g1 : w1.cell? ⟨w.heap.size + 1, 1, none⟩ = some (.int .u32 r) := by go_simp
  have g2 : w1.cell? ⟨w.heap.size + 1, 2, none⟩ = some (.int .u32 f) := by go_simp
  have g3 : w1.cell? ⟨w.heap.size + 1, 3, none⟩ = some (.bool false) := by go_simp
  have a0 : w1.cell? ⟨w.heap.size + 1 + 1, 0, none⟩ = some (.int .i64 0) := by go_simp
  have a1 : w1.cell? ⟨w.heap.size + 1 + 1, 1, none⟩ = some (.int .i64 0) := by go_simp
  have a2 : w1.cell? ⟨w.heap.size + 1 + 1, 2, none⟩ = some (.int .i64 0) := by go_simp
  have a3 : w1.cell? ⟨w.heap.size + 1 + 1, 3, none⟩ = some (.int .u32 0) := by go_simp
  have a4 : w1.cell? ⟨w.heap.size + 1 + 1, 4, none⟩ = some (.int .u32 0) := by go_simp
  have a5 : w1.cell? ⟨w.heap.size + 1 + 1, 5, none⟩ = some (.int .i64 0) := by go_simp
  have a6 : w1.cell? ⟨w.heap.size + 1 + 1, 6, none⟩ = some (.int .u32 0) := by go_simp
  have a7 : w1.cell? ⟨w.heap.size + 1 + 1, 7, none⟩ = some (.int .u32 0) := by go_simp
  have hB1 : Below w.heap.size w w1 := (by repeat' (first | with_reducible exact Below.refl _ _ | with_reducible assumption | with_reducible refine Below.alloc ?_ ?_ _ | with_reducible refine Below.setCell ?_ ?_ _ | with_reducible refine Below.drew ?_ | with_reducible refine below_drewN ?_ _ | with_reducible refine Below.trans ?_ (Below.mono (by with_reducible assumption) ?_) | omega | (simp <;> omega)))
  have q3 : w1.frozen? ⟨w.heap.size, 3, none⟩ = false := by go_simp
  have q4 : w1.frozen? ⟨w.heap.size, 4, none⟩ = false := by go_simp
  have q5 : w1.frozen? ⟨w.heap.size, 7, none⟩ = false := by go_simp
  have q6 : w1.frozen? ⟨w.heap.size, 5, none⟩ = false := by go_simp
  have p0 : ∀ o, w1.frozen? ⟨w.heap.size + 1 + 1, o, none⟩ = false := fun o => by rw [hff1 _ _ (by simp)]; exact World.frozen?_alloc_at _ _ _ _ (by simp)
  clear hcc1 hff1 hb1
  go_wp2
  exact bodyPost_ret (v := .tuple #[.iface 104 (.agg #[.int .i64 0, .int .i64 0, .int .i64 n, .bool true, .bool true, .bool true, .int .i64 (t + 1), .int .i64 v]), (.agg #[.int .i64 0, .int .i64 0, .int .i64 0, .int .u32 0, .int .u32 0, .int .i64 0, .int .u32 0, .int .u32 0]), .bool true]) (by simp [results, Try.results109, go_sem, a0, a1, a2, a3, a4, a5, a6, a7, k0, k1, k2, k3, k4, k5, k6, k7]) rfl ⟨rfl, (by repeat' (first | with_reducible exact Below.refl _ _ | with_reducible assumption | with_reducible refine Below.alloc ?_ ?_ _ | with_reducible refine Below.setCell ?_ ?_ _ | with_reducible refine Below.drew ?_ | with_reducible refine below_drewN ?_ _ | with_reducible refine Below.trans ?_ (Below.mono (by with_reducible assumption) ?_) | omega | (simp <;> omega)))⟩

set_option maxHeartbeats 1000000 in
theorem next_two_swap (n t a v r f : Int) (w : World) (_h0 : 0 ≤ t) (_h1 : t ≤ 1000000) (hm : ¬ wrap64 (v + n) = v) :
    Calls Try.prog 109 #[(.agg #[.int .i64 0, .int .i64 0, .int .i64 n, .bool true, .bool true, .bool false, .int .i64 t, .int .i64 a]), (.agg #[.int .i64 v, .int .u32 r, .int .u32 f, .bool false])] w fun e w' => e = .returned (.tuple #[.iface 104 (.agg #[.int .i64 0, .int .i64 0, .int .i64 n, .bool true, .bool true, .bool false, .int .i64 (t + 1), .int .i64 a]), (.agg #[.int .i64 6, .int .i64 0, .int .i64 v, .int .u32 r, .int .u32 f, .int .i64 (wrap64 (v + n)), .int .u32 r, .int .u32 f]), .bool false]) ∧ Below w.heap.size w w' := by
  have hm2 : (wrap64 (v + n) == v) = false := by simpa using hm
  obtain ⟨m, hmm⟩ : ∃ m, m = wrap64 (v + n) := ⟨_, rfl⟩
  rw [← hmm] at hm2
  have HM := hide hmm
  clear hmm hm
  rw [← HM.out]
  go_enter Try.func109, Try.ntmps109
  go_wp2_with fail
  refine (do_any v n _).mono ?_
  rintro e w1 ⟨rfl, hb1⟩
  rw [← HM.out]
  obtain ⟨hcc1, hff1⟩ := bcell hb1; have hs1 := hb1.size; (try simp at hs1); have hz1 : w.heap.size < w1.heap.size := (by omega)
  have hz2 : w.heap.size + 1 < w1.heap.size := by omega
  have hz3 : w.heap.size + 1 + 1 < w1.heap.size := by omega
  have k0 : w1.cell? ⟨w.heap.size, 0, none⟩ = some (.int .i64 0) := by go_simp
  have k1 : w1.cell? ⟨w.heap.size, 1, none⟩ = some (.int .i64 0) := by go_simp
  have k2 : w1.cell? ⟨w.heap.size, 2, none⟩ = some (.int .i64 n) := by go_simp
  have k3 : w1.cell? ⟨w.heap.size, 3, none⟩ = some (.bool true) := by go_simp
  have k4 : w1.cell? ⟨w.heap.size, 4, none⟩ = some (.bool true) := by go_simp
  have k5 : w1.cell? ⟨w.heap.size, 5, none⟩ = some (.bool false) := by go_simp
  have k6 : w1.cell? ⟨w.heap.size, 6, none⟩ = some (.int .i64 (t + 1)) := by go_simp
  have k7 : w1.cell? ⟨w.heap.size, 7, none⟩ = some (.int .i64 a) := by go_simp
  have g0 : w1.cell? ⟨w.heap.size + 1, 0, none⟩ = some (.int .i64 v) := by go_simp
  have g1 : w1.cell? ⟨w.heap.size + 1, 1, none⟩ = some (.int .u32 r) := by go_simp
  have g2 : w1.cell? ⟨w.heap.size + 1, 2, none⟩ = some (.int .u32 f) := by go_simp
  have g3 : w1.cell? ⟨w.heap.size + 1, 3, none⟩ = some (.bool false) := by go_simp
  have a0 : w1.cell? ⟨w.heap.size + 1 + 1, 0, none⟩ = some (.int .i64 0) := by go_simp
  have a1 : w1.cell? ⟨w.heap.size + 1 + 1, 1, none⟩ = some (.int .i64 0) := by go_simp
  have a2 : w1.cell? ⟨w.heap.size + 1 + 1, 2, none⟩ = some (.int .i64 0) := by go_simp
  have a3 : w1.cell? ⟨w.heap.size + 1 + 1, 3, none⟩ = some (.int .u32 0) := by go_simp
  have a4 : w1.cell? ⟨w.heap.size + 1 + 1, 4, none⟩ = some (.int .u32 0) := by go_simp
  have a5 : w1.cell? ⟨w.heap.size + 1 + 1, 5, none⟩ = some (.int .i64 0) := by go_simp
  have a6 : w1.cell? ⟨w.heap.size + 1 + 1, 6, none⟩ = some (.int .u32 0) := by go_simp
  have a7 : w1.cell? ⟨w.heap.size + 1 + 1, 7, none⟩ = some (.int .u32 0) := by go_simp
  have hB1 : Below w.heap.size w w1 := (by repeat' (first | with_reducible exact Below.refl _ _ | with_reducible assumption | with_reducible refine Below.alloc ?_ ?_ _ | with_reducible refine Below.setCell ?_ ?_ _ | with_reducible refine Below.drew ?_ | with_reducible refine below_drewN ?_ _ | with_reducible refine Below.trans ?_ (Below.mono (by with_reducible assumption) ?_) | omega | (simp <;> omega)))
  have q3 : w1.frozen? ⟨w.heap.size, 3, none⟩ = false := by go_simp
  have q4 : w1.frozen? ⟨w.heap.size, 4, none⟩ = false := by go_simp
  have q5 : w1.frozen? ⟨w.heap.size, 7, none⟩ = false := by go_simp
  have q6 : w1.frozen? ⟨w.heap.size, 5, none⟩ = false := by go_simp
  have p0 : ∀ o, w1.frozen? ⟨w.heap.size + 1 + 1, o, none⟩ = false := fun o => by rw [hff1 _ _ (by simp)]; exact World.frozen?_alloc_at _ _ _ _ (by simp)
  clear hcc1 hff1 hb1
  go_wp2
  go_region
  all_goals go_wp2
  all_goals exact bodyPost_ret (v := .tuple #[.iface 104 (.agg #[.int .i64 0, .int .i64 0, .int .i64 n, .bool true, .bool true, .bool false, .int .i64 (t + 1), .int .i64 a]), (.agg #[.int .i64 6, .int .i64 0, .int .i64 v, .int .u32 r, .int .u32 f, .int .i64 m, .int .u32 r, .int .u32 f]), .bool false]) (by simp [results, Try.results109, go_sem, a0, a1, a2, a3, a4, a5, a6, a7, hz3]) rfl ⟨rfl, (by repeat' (first | with_reducible exact Below.refl _ _ | with_reducible assumption | with_reducible refine Below.alloc ?_ ?_ _ | with_reducible refine Below.setCell ?_ ?_ _ | with_reducible refine Below.drew ?_ | with_reducible refine below_drewN ?_ _ | with_reducible refine Below.trans ?_ (Below.mono (by with_reducible assumption) ?_) | omega | (simp <;> omega)))⟩
end Go.Proofs.Ytmjkopejbdipcaa
