/- Rest and Heat of package advise and of its reference, over the counts that a list of notes leaves. -/
import Derived.Test.YtfldjbojonbmpaaA2
namespace Go.Proofs.Ytfldjbojonbmpaa
open Go.RowKit Go.Maps

def p2 : Nat → Int
  | 0 => 1
  | n + 1 => 2 * p2 n
/-- The recommended rest of thread t behind n failures. -/
def restv (n t : Int) : Int := if n = 0 then 0 else if n < 7 then (if 64 < p2 n.toNat - 1 + t - 1 then 64 else p2 n.toNat - 1 + t - 1) else 64


set_option maxHeartbeats 400000 in
theorem rest_at1 (th t : Int) (v1 v2 : Option Nat) (w : World) (ht : 1 ≤ t) (hth : t ≤ th) (h8 : th ≤ 8) (look : ∀ o, (Instr.lookup 50 (.map v1) (.int .i64 t) false).run Try.prog (w.alloc o) = .ok (.int .i64 1) (w.alloc o)) :
    Calls Try.prog 15 #[.agg #[.int .i64 th, .map v1, .map v2], .int .i64 t] w fun e w' => e = .returned (.int .i64 (restv 1 t)) ∧ Below w.heap.size w w' := by
  go_enter Try.func15, Try.ntmps15
  go_wp2_with (go_at_call 22; refine (is_yes th t v1 v2 _ ht hth).mono ?_; rintro e w0 ⟨rfl, hb0⟩)
  go_ret
  refine ⟨by simp [restv, p2]; (try omega), (by repeat' (first | with_reducible exact Below.refl _ _ | with_reducible assumption | with_reducible refine Below.alloc ?_ ?_ _ | with_reducible refine Below.setCell ?_ ?_ _ | with_reducible refine Below.drew ?_ | with_reducible refine below_drewN ?_ _ | with_reducible refine Below.trans ?_ (Below.mono (by with_reducible assumption) ?_) | omega | (simp <;> omega)))⟩
set_option maxHeartbeats 400000 in
theorem rest_at2 (th t : Int) (v1 v2 : Option Nat) (w : World) (ht : 1 ≤ t) (hth : t ≤ th) (h8 : th ≤ 8) (look : ∀ o, (Instr.lookup 50 (.map v1) (.int .i64 t) false).run Try.prog (w.alloc o) = .ok (.int .i64 2) (w.alloc o)) :
    Calls Try.prog 15 #[.agg #[.int .i64 th, .map v1, .map v2], .int .i64 t] w fun e w' => e = .returned (.int .i64 (restv 2 t)) ∧ Below w.heap.size w w' := by
  go_enter Try.func15, Try.ntmps15
  go_wp2_with (go_at_call 22; refine (is_yes th t v1 v2 _ ht hth).mono ?_; rintro e w0 ⟨rfl, hb0⟩)
  go_ret
  refine ⟨by simp [restv, p2]; (try omega), (by repeat' (first | with_reducible exact Below.refl _ _ | with_reducible assumption | with_reducible refine Below.alloc ?_ ?_ _ | with_reducible refine Below.setCell ?_ ?_ _ | with_reducible refine Below.drew ?_ | with_reducible refine below_drewN ?_ _ | with_reducible refine Below.trans ?_ (Below.mono (by with_reducible assumption) ?_) | omega | (simp <;> omega)))⟩
set_option maxHeartbeats 400000 in
theorem rest_at3 (th t : Int) (v1 v2 : Option Nat) (w : World) (ht : 1 ≤ t) (hth : t ≤ th) (h8 : th ≤ 8) (look : ∀ o, (Instr.lookup 50 (.map v1) (.int .i64 t) false).run Try.prog (w.alloc o) = .ok (.int .i64 3) (w.alloc o)) :
    Calls Try.prog 15 #[.agg #[.int .i64 th, .map v1, .map v2], .int .i64 t] w fun e w' => e = .returned (.int .i64 (restv 3 t)) ∧ Below w.heap.size w w' := by
  go_enter Try.func15, Try.ntmps15
  go_wp2_with (go_at_call 22; refine (is_yes th t v1 v2 _ ht hth).mono ?_; rintro e w0 ⟨rfl, hb0⟩)
  go_ret
  refine ⟨by simp [restv, p2]; (try omega), (by repeat' (first | with_reducible exact Below.refl _ _ | with_reducible assumption | with_reducible refine Below.alloc ?_ ?_ _ | with_reducible refine Below.setCell ?_ ?_ _ | with_reducible refine Below.drew ?_ | with_reducible refine below_drewN ?_ _ | with_reducible refine Below.trans ?_ (Below.mono (by with_reducible assumption) ?_) | omega | (simp <;> omega)))⟩
set_option maxHeartbeats 400000 in
theorem rest_at4 (th t : Int) (v1 v2 : Option Nat) (w : World) (ht : 1 ≤ t) (hth : t ≤ th) (h8 : th ≤ 8) (look : ∀ o, (Instr.lookup 50 (.map v1) (.int .i64 t) false).run Try.prog (w.alloc o) = .ok (.int .i64 4) (w.alloc o)) :
    Calls Try.prog 15 #[.agg #[.int .i64 th, .map v1, .map v2], .int .i64 t] w fun e w' => e = .returned (.int .i64 (restv 4 t)) ∧ Below w.heap.size w w' := by
  go_enter Try.func15, Try.ntmps15
  go_wp2_with (go_at_call 22; refine (is_yes th t v1 v2 _ ht hth).mono ?_; rintro e w0 ⟨rfl, hb0⟩)
  go_ret
  refine ⟨by simp [restv, p2]; (try omega), (by repeat' (first | with_reducible exact Below.refl _ _ | with_reducible assumption | with_reducible refine Below.alloc ?_ ?_ _ | with_reducible refine Below.setCell ?_ ?_ _ | with_reducible refine Below.drew ?_ | with_reducible refine below_drewN ?_ _ | with_reducible refine Below.trans ?_ (Below.mono (by with_reducible assumption) ?_) | omega | (simp <;> omega)))⟩
set_option maxHeartbeats 400000 in
theorem rest_at5 (th t : Int) (v1 v2 : Option Nat) (w : World) (ht : 1 ≤ t) (hth : t ≤ th) (h8 : th ≤ 8) (look : ∀ o, (Instr.lookup 50 (.map v1) (.int .i64 t) false).run Try.prog (w.alloc o) = .ok (.int .i64 5) (w.alloc o)) :
    Calls Try.prog 15 #[.agg #[.int .i64 th, .map v1, .map v2], .int .i64 t] w fun e w' => e = .returned (.int .i64 (restv 5 t)) ∧ Below w.heap.size w w' := by
  go_enter Try.func15, Try.ntmps15
  go_wp2_with (go_at_call 22; refine (is_yes th t v1 v2 _ ht hth).mono ?_; rintro e w0 ⟨rfl, hb0⟩)
  go_ret
  refine ⟨by simp [restv, p2]; (try omega), (by repeat' (first | with_reducible exact Below.refl _ _ | with_reducible assumption | with_reducible refine Below.alloc ?_ ?_ _ | with_reducible refine Below.setCell ?_ ?_ _ | with_reducible refine Below.drew ?_ | with_reducible refine below_drewN ?_ _ | with_reducible refine Below.trans ?_ (Below.mono (by with_reducible assumption) ?_) | omega | (simp <;> omega)))⟩
set_option maxHeartbeats 400000 in
theorem rest_at6 (th t : Int) (v1 v2 : Option Nat) (w : World) (ht : 1 ≤ t) (hth : t ≤ th) (h8 : th ≤ 8) (look : ∀ o, (Instr.lookup 50 (.map v1) (.int .i64 t) false).run Try.prog (w.alloc o) = .ok (.int .i64 6) (w.alloc o)) :
    Calls Try.prog 15 #[.agg #[.int .i64 th, .map v1, .map v2], .int .i64 t] w fun e w' => e = .returned (.int .i64 (restv 6 t)) ∧ Below w.heap.size w w' := by
  by_cases hc : (64 : Int) < 64 - 1 + t - 1
  all_goals
    go_enter Try.func15, Try.ntmps15
    go_wp2_with (go_at_call 22; refine (is_yes th t v1 v2 _ ht hth).mono ?_; rintro e w0 ⟨rfl, hb0⟩)
    go_ret
    refine ⟨by simp [restv, p2]; (try omega), (by repeat' (first | with_reducible exact Below.refl _ _ | with_reducible assumption | with_reducible refine Below.alloc ?_ ?_ _ | with_reducible refine Below.setCell ?_ ?_ _ | with_reducible refine Below.drew ?_ | with_reducible refine below_drewN ?_ _ | with_reducible refine Below.trans ?_ (Below.mono (by with_reducible assumption) ?_) | omega | (simp <;> omega)))⟩

set_option maxHeartbeats 400000 in
theorem rest_at0 (th t : Int) (v1 v2 : Option Nat) (w : World) (ht : 1 ≤ t) (hth : t ≤ th) (look : ∀ o, (Instr.lookup 50 (.map v1) (.int .i64 t) false).run Try.prog (w.alloc o) = .ok (.int .i64 0) (w.alloc o)) :
    Calls Try.prog 15 #[.agg #[.int .i64 th, .map v1, .map v2], .int .i64 t] w fun e w' => e = .returned (.int .i64 (restv 0 t)) ∧ Below w.heap.size w w' := by
  go_enter Try.func15, Try.ntmps15
  go_wp2_with (go_at_call 22; refine (is_yes th t v1 v2 _ ht hth).mono ?_; rintro e w0 ⟨rfl, hb0⟩)
  go_ret
  exact ⟨rfl, (by repeat' (first | with_reducible exact Below.refl _ _ | with_reducible assumption | with_reducible refine Below.alloc ?_ ?_ _ | with_reducible refine Below.setCell ?_ ?_ _ | with_reducible refine Below.drew ?_ | with_reducible refine below_drewN ?_ _ | with_reducible refine Below.trans ?_ (Below.mono (by with_reducible assumption) ?_) | omega | (simp <;> omega)))⟩

set_option maxHeartbeats 400000 in
theorem rest_at7 (th t n : Int) (v1 v2 : Option Nat) (w : World) (ht : 1 ≤ t) (hth : t ≤ th) (hn : 7 ≤ n) (look : ∀ o, (Instr.lookup 50 (.map v1) (.int .i64 t) false).run Try.prog (w.alloc o) = .ok (.int .i64 n) (w.alloc o)) :
    Calls Try.prog 15 #[.agg #[.int .i64 th, .map v1, .map v2], .int .i64 t] w fun e w' => e = .returned (.int .i64 (restv n t)) ∧ Below w.heap.size w w' := by
  have hr : restv n t = 64 := by
    unfold restv
    rw [if_neg (by omega), if_neg (by omega)]
  rw [hr]
  clear hr
  have hn0 : (n == 0) = false := by simp; omega
  go_enter Try.func15, Try.ntmps15
  go_wp2_with (go_at_call 22; refine (is_yes th t v1 v2 _ ht hth).mono ?_; rintro e w0 ⟨rfl, hb0⟩)
  go_ret
  exact ⟨rfl, (by repeat' (first | with_reducible exact Below.refl _ _ | with_reducible assumption | with_reducible refine Below.alloc ?_ ?_ _ | with_reducible refine Below.setCell ?_ ?_ _ | with_reducible refine Below.drew ?_ | with_reducible refine below_drewN ?_ _ | with_reducible refine Below.trans ?_ (Below.mono (by with_reducible assumption) ?_) | omega | (simp <;> omega)))⟩

set_option maxHeartbeats 400000 in
theorem rest_out (th t : Int) (v1 v2 : Option Nat) (n : Nat) (f h : Int → Int) (w : World) (ho : t < 1 ∨ th < t) (wt : (Lit.int .i64 t).wf = true) (ha : AdvR w v1 v2 n f h) :
    Calls Try.prog 15 #[.agg #[.int .i64 th, .map v1, .map v2], .int .i64 t] w fun e w' => e = .returned (.int .i64 0) ∧ Below w.heap.size w w' := by
  have look := fun o => look_any (ha.1.alloc o) Try.underlying3 Try.underlying50 wt
  go_enter Try.func15, Try.ntmps15
  go_wp2_with (go_at_call 22; refine (is_no th t v1 v2 _ ho).mono ?_; rintro e w0 ⟨rfl, hb0⟩)
  go_ret
  exact ⟨rfl, (by repeat' (first | with_reducible exact Below.refl _ _ | with_reducible assumption | with_reducible refine Below.alloc ?_ ?_ _ | with_reducible refine Below.setCell ?_ ?_ _ | with_reducible refine Below.drew ?_ | with_reducible refine below_drewN ?_ _ | with_reducible refine Below.trans ?_ (Below.mono (by with_reducible assumption) ?_) | omega | (simp <;> omega)))⟩

theorem rest_in (th t : Int) (v1 v2 : Option Nat) (n : Nat) (f h : Int → Int) (w : World) (ht : 1 ≤ t) (hth : t ≤ th) (h8 : th ≤ 8) (ha : AdvR w v1 v2 n f h) (f0 : 0 ≤ f t) :
    Calls Try.prog 15 #[.agg #[.int .i64 th, .map v1, .map v2], .int .i64 t] w fun e w' => e = .returned (.int .i64 (restv (f t) t)) ∧ Below w.heap.size w w' := by
  have wt : (Lit.int .i64 t).wf = true := WalkArith.wf_i64 (by omega)
  have look := fun o => look_any (ha.1.alloc o) Try.underlying3 Try.underlying50 wt
  generalize f t = m at look f0
  by_cases h7 : 7 ≤ m
  · exact rest_at7 th t m v1 v2 w ht hth h7 look
  have hm : m = 0 ∨ m = 1 ∨ m = 2 ∨ m = 3 ∨ m = 4 ∨ m = 5 ∨ m = 6 := by omega
  rcases hm with rfl | rfl | rfl | rfl | rfl | rfl | rfl
  · exact rest_at0 th t v1 v2 w ht hth look
  · exact rest_at1 th t v1 v2 w ht hth h8 look
  · exact rest_at2 th t v1 v2 w ht hth h8 look
  · exact rest_at3 th t v1 v2 w ht hth h8 look
  · exact rest_at4 th t v1 v2 w ht hth h8 look
  · exact rest_at5 th t v1 v2 w ht hth h8 look
  · exact rest_at6 th t v1 v2 w ht hth h8 look

set_option maxHeartbeats 400000 in
theorem heat_any (th z : Int) (v1 v2 : Option Nat) (n : Nat) (f h : Int → Int) (w : World) (wz : (Lit.int .i64 z).wf = true) (ha : AdvR w v1 v2 n f h) :
    Calls Try.prog 17 #[.agg #[.int .i64 th, .map v1, .map v2], .int .i64 z] w fun e w' => e = .returned (.int .i64 (h z)) ∧ Below w.heap.size w w' := by
  have look := fun o => look_any (ha.2.alloc o) Try.underlying32 Try.underlying51 wz
  go_enter Try.func17, Try.ntmps17
  go_wp2
  go_ret
  exact ⟨rfl, (by repeat' (first | with_reducible exact Below.refl _ _ | with_reducible assumption | with_reducible refine Below.alloc ?_ ?_ _ | with_reducible refine Below.setCell ?_ ?_ _ | with_reducible refine Below.drew ?_ | with_reducible refine below_drewN ?_ _ | with_reducible refine Below.trans ?_ (Below.mono (by with_reducible assumption) ?_) | omega | (simp <;> omega)))⟩

set_option maxHeartbeats 400000 in
theorem anew_ok (n : Int) (w : World) (h1 : 1 ≤ n) (h2 : n ≤ 8) :
    Calls Try.prog 13 #[.int .i64 n] w fun e w' => e = .returned (.tuple #[.agg #[.int .i64 n, .map none, .map none], .int .i64 0]) ∧ Below w.heap.size w w' := by
  go_enter Try.func13, Try.ntmps13
  go_wp2
  exact bodyPost_ret (v := .tuple #[.agg #[.int .i64 n, .map none, .map none], .int .i64 0]) (by simp [results, Try.results13, go_sem]) rfl ⟨rfl, (by repeat' (first | with_reducible exact Below.refl _ _ | with_reducible assumption | with_reducible refine Below.alloc ?_ ?_ _ | with_reducible refine Below.setCell ?_ ?_ _ | with_reducible refine Below.drew ?_ | with_reducible refine below_drewN ?_ _ | with_reducible refine Below.trans ?_ (Below.mono (by with_reducible assumption) ?_) | omega | (simp <;> omega)))⟩
set_option maxHeartbeats 400000 in
theorem anew_no (n : Int) (w : World) (h : n < 1 ∨ 8 < n) :
    Calls Try.prog 13 #[.int .i64 n] w fun e w' => e = .returned (.tuple #[.agg #[.int .i64 0, .map none, .map none], .int .i64 3]) ∧ Below w.heap.size w w' := by
  by_cases h1 : n < 1
  · go_enter Try.func13, Try.ntmps13
    go_wp2
    exact bodyPost_ret (v := .tuple #[.agg #[.int .i64 0, .map none, .map none], .int .i64 3]) (by simp [results, Try.results13, go_sem]) rfl ⟨rfl, (by repeat' (first | with_reducible exact Below.refl _ _ | with_reducible assumption | with_reducible refine Below.alloc ?_ ?_ _ | with_reducible refine Below.setCell ?_ ?_ _ | with_reducible refine Below.drew ?_ | with_reducible refine below_drewN ?_ _ | with_reducible refine Below.trans ?_ (Below.mono (by with_reducible assumption) ?_) | omega | (simp <;> omega)))⟩
  · have h2 : 8 < n := by omega
    go_enter Try.func13, Try.ntmps13
    go_wp2
    exact bodyPost_ret (v := .tuple #[.agg #[.int .i64 0, .map none, .map none], .int .i64 3]) (by simp [results, Try.results13, go_sem]) rfl ⟨rfl, (by repeat' (first | with_reducible exact Below.refl _ _ | with_reducible assumption | with_reducible refine Below.alloc ?_ ?_ _ | with_reducible refine Below.setCell ?_ ?_ _ | with_reducible refine Below.drew ?_ | with_reducible refine below_drewN ?_ _ | with_reducible refine Below.trans ?_ (Below.mono (by with_reducible assumption) ?_) | omega | (simp <;> omega)))⟩
end Go.Proofs.Ytfldjbojonbmpaa
