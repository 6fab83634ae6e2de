/- Shrink's laws: great decided; the evaluation of the law's predicate on schedules that came in. -/
import Derived.Test.YtmpbaanlagmacaaS11
namespace Go.Proofs.Ytmpbaanlagmacaa
open Go.RowKit

theorem great_no (k N : Int) (A A2 : Option Addr) (n n2 cap cap2 : Nat) (w : World) (h1 : n ≤ 20) (h2 : n2 ≤ 40) :
    Calls Try.prog 33 #[.agg #[.int .u8 k, .slice A n cap, .int .u8 N], .slice A2 n2 cap2] w fun e w' => e = .returned (.bool false) ∧ Below w.heap.size w w' := by
  have h := great_any k N A A2 n n2 cap cap2 w (by unfold maxLen; omega) (by unfold maxLen; omega)
  rw [show (decide (40 < n2) || decide (20 < n)) = false by simp; omega] at h
  exact h
theorem great_yes (k N : Int) (A A2 : Option Addr) (n n2 cap cap2 : Nat) (w : World) (h1 : n ≤ maxLen) (h2 : n2 ≤ maxLen) (h : 20 < n ∨ 40 < n2) :
    Calls Try.prog 33 #[.agg #[.int .u8 k, .slice A n cap, .int .u8 N], .slice A2 n2 cap2] w fun e w' => e = .returned (.bool true) ∧ Below w.heap.size w w' := by
  have h' := great_any k N A A2 n n2 cap cap2 w h1 h2
  rw [show (decide (40 < n2) || decide (20 < n)) = true by simp; omega] at h'
  exact h'
theorem alike_yes (A1 A2 : Option Addr) (n1 n2 c1 c2 : Nat) (l : List Pk) (B1 B2 : Nat) (w : World) (h1 : l.length = n1) (h2 : l.length = n2) (hb1 : n1 ≤ 1000) (hr1 : Rd w B1 3 A1 n1 (l.flatMap pkc)) (hr2 : Rd w B2 3 A2 n2 (l.flatMap pkc)) :
    Calls Try.prog 41 #[.slice A1 n1 c1, .slice A2 n2 c2] w fun e w' => e = .returned (.bool true) ∧ Below w.heap.size w w' := by
  refine (alike_any A1 A2 n1 n2 c1 c2 l l B1 B2 w h1 h2 hb1 (by omega) hr1 hr2).mono ?_
  rintro e w' ⟨rfl, n, rfl⟩
  exact ⟨by simp, below_drewN (Below.refl _ _) n⟩
theorem lookbad_w (k N : Int) (A A2 : Option Addr) (n n2 cap cap2 : Nat) (want l : List Pk) (W w : World) (hk0 : 0 ≤ k) (hk1 : k ≤ 255) (hN0 : 0 ≤ N) (hN1 : N ≤ 255) (hn : want.length = n) (hb : n ≤ 1000) (hn2 : l.length = n2) (hb2 : n2 ≤ 1000)
    (hr : Rd W W.heap.size 3 A n (want.flatMap pkc)) (hr2 : Rd w w.heap.size 3 A2 n2 (l.flatMap pkc)) (hw : Below W.heap.size W w) :
    Calls Try.prog 44 #[.agg #[.int .u8 k, .slice A n cap, .int .u8 N], .slice A2 n2 cap2] w fun e w' => e = .returned (.bool (badP k N want l)) ∧ Below w.heap.size w w' :=
  lookbad_any k N A A2 n n2 cap cap2 want l W.heap.size w.heap.size w hk0 hk1 hN0 hN1 hn hb hn2 hb2 hw.size (Nat.le_refl _) (hr.below hw) hr2
theorem least_w (k N : Int) (A A2 : Option Addr) (n n2 cap cap2 : Nat) (want l : List Pk) (W w : World) (hk0 : 0 ≤ k) (hk1 : k ≤ 255) (hN0 : 0 ≤ N) (hN1 : N ≤ 255) (hn : want.length = n) (hb : n ≤ 1000) (hn2 : l.length = n2) (hc2 : n2 ≤ cap2) (hb2 : n2 ≤ 1000)
    (hr : Rd W W.heap.size 3 A n (want.flatMap pkc)) (hr2 : Rd w w.heap.size 3 A2 n2 (l.flatMap pkc)) (hw : Below W.heap.size W w) :
    Calls Try.prog 39 #[.iface 65 (.agg #[.int .u8 k, .slice A n cap, .int .u8 N]), .slice A2 n2 cap2] w fun e w' => ∃ A' n' cap', e = .returned (.slice A' n' cap') ∧ (leastP (badP k N want) l).1.length = n' ∧ n' ≤ cap' ∧ Rd w' w'.heap.size 3 A' n' ((leastP (badP k N want) l).1.flatMap pkc) ∧ Below w.heap.size w w' :=
  least_any _ _ _ (badP k N want) A2 n2 cap2 l W.heap.size w hn2 hc2 hb2 hr2 hw.size ((look_pred k N A n cap want W.heap.size W hk0 hk1 hN0 hN1 hn hb hr (Nat.le_refl _)).below hw)
theorem steps_w (k N : Int) (A A2 : Option Addr) (n n2 cap cap2 : Nat) (want l : List Pk) (W w : World) (hk0 : 0 ≤ k) (hk1 : k ≤ 255) (hN0 : 0 ≤ N) (hN1 : N ≤ 255) (hn : want.length = n) (hb : n ≤ 1000) (hn2 : l.length = n2) (hc2 : n2 ≤ cap2) (hb2 : n2 ≤ 1000)
    (hr : Rd W W.heap.size 3 A n (want.flatMap pkc)) (hr2 : Rd w w.heap.size 3 A2 n2 (l.flatMap pkc)) (hw : Below W.heap.size W w) :
    Calls Try.prog 40 #[.iface 65 (.agg #[.int .u8 k, .slice A n cap, .int .u8 N]), .slice A2 n2 cap2] w fun e w' => e = .returned (.int .i64 (leastP (badP k N want) l).2) ∧ Below w.heap.size w w' :=
  steps_any _ _ _ (badP k N want) A2 n2 cap2 l W.heap.size w hn2 hc2 hb2 hr2 hw.size ((look_pred k N A n cap want W.heap.size W hk0 hk1 hN0 hN1 hn hb hr (Nat.le_refl _)).below hw)
theorem minimal_w (k N : Int) (A A2 : Option Addr) (n n2 cap cap2 : Nat) (want l : List Pk) (W w : World) (hk0 : 0 ≤ k) (hk1 : k ≤ 255) (hN0 : 0 ≤ N) (hN1 : N ≤ 255) (hn : want.length = n) (hb : n ≤ 1000) (hn2 : l.length = n2) (hc2 : n2 ≤ cap2) (hb2 : n2 ≤ 1000)
    (hr : Rd W W.heap.size 3 A n (want.flatMap pkc)) (hr2 : Rd w w.heap.size 3 A2 n2 (l.flatMap pkc)) (hw : Below W.heap.size W w) :
    Calls Try.prog 42 #[.iface 65 (.agg #[.int .u8 k, .slice A n cap, .int .u8 N]), .slice A2 n2 cap2] w fun e w' => e = .returned (.bool (minimalP (badP k N want) l)) ∧ Below w.heap.size w w' :=
  minimal_any _ _ _ (badP k N want) A2 n2 cap2 l W.heap.size w hn2 hc2 hb2 hr2 hw.size ((look_pred k N A n cap want W.heap.size W hk0 hk1 hN0 hN1 hn hb hr (Nat.le_refl _)).below hw)
end Go.Proofs.Ytmpbaanlagmacaa
