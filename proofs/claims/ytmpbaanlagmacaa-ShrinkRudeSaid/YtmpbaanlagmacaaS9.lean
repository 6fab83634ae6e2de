/- Package shrink: Least, Steps, Minimal. -/
import Derived.Test.YtmpbaanlagmacaaS8
namespace Go.Proofs.Ytmpbaanlagmacaa
open Go.RowKit

theorem iface_nil (T : TypeId) (pay : Value) (w : World) : (binOp .eql 94 (.iface T pay) .nilIface).run Try.prog w = .ok (.bool false) w := by kernel_rfl
theorem Sched.of_rd {K n cap : Nat} {w : World} {A : Option Addr} {l : List Pk} (h1 : l.length = n) (h2 : n ≤ cap) (hr : Rd w K 3 A n (l.flatMap pkc)) (hK : K ≤ w.heap.size) : Sched K w A n cap l :=
  ⟨h1, h2, hr.more hK, fun b off h0 e => by obtain ⟨b', off', e', hb, _⟩ := hr.2 h0; rw [e] at e'; injection e' with e'; injection e' with e' _; omega⟩
theorem Sched.rd {K n cap : Nat} {w : World} {A : Option Addr} {l : List Pk} (h : Sched K w A n cap l) : Rd w w.heap.size 3 A n (l.flatMap pkc) := h.2.2.1

set_option maxHeartbeats 1000000 in
set_option maxRecDepth 100000 in
theorem least_any (T : TypeId) (pay : Value) (M : Nat) (p : List Pk → Bool) (A : Option Addr) (n cap : Nat) (l : List Pk) (B : Nat) (w : World) (hl : l.length = n) (hcap : n ≤ cap) (hn : n ≤ 1000) (hr : Rd w w.heap.size 3 A n (l.flatMap pkc)) (hB : B ≤ w.heap.size) (hp : Pred T pay M p B w) :
    Calls Try.prog 39 #[.iface T pay, .slice A n cap] w fun e w' => ∃ A' n' cap', e = .returned (.slice A' n' cap') ∧ (leastP p l).1.length = n' ∧ n' ≤ cap' ∧ Rd w' w'.heap.size 3 A' n' ((leastP p l).1.flatMap pkc) ∧ Below w.heap.size w w' := by
  have Hp := hide hp
  clear hp
  have hnil := iface_nil
  go_enter Try.func39, Try.ntmps39
  go_wp2_with (go_at_call 53; refine (shrunk_any w.heap.size T pay M p A n cap l B _ (Sched.of_rd hl hcap (hr.below (by repeat' (first | with_reducible exact Below.refl _ _ | with_reducible assumption | with_reducible refine Below.alloc ?_ ?_ _ | with_reducible refine Below.setCell ?_ ?_ _ | with_reducible refine Below.drew ?_ | with_reducible refine below_drewN ?_ _ | with_reducible refine Below.trans ?_ (Below.mono (by with_reducible assumption) ?_) | omega | (simp <;> omega)))) (by simp)) hn ⟨by go_simp, by go_simp, by go_simp, by simp⟩ hB (Hp.out.below ((Below.refl _ _).alloc hB _))).mono ?_; rintro e w1 ⟨A', n', cap', rfl, hs1, hlc1, hb1⟩)
  go_ret
  exact ⟨A', n', cap', rfl, hs1.1, hs1.2.1, hs1.rd, (by repeat' (first | with_reducible exact Below.refl _ _ | with_reducible assumption | with_reducible refine Below.alloc ?_ ?_ _ | with_reducible refine Below.setCell ?_ ?_ _ | with_reducible refine Below.drew ?_ | with_reducible refine below_drewN ?_ _ | with_reducible refine Below.trans ?_ (Below.mono (by with_reducible assumption) ?_) | omega | (simp <;> omega)))⟩

set_option maxHeartbeats 1000000 in
set_option maxRecDepth 100000 in
theorem steps_any (T : TypeId) (pay : Value) (M : Nat) (p : List Pk → Bool) (A : Option Addr) (n cap : Nat) (l : List Pk) (B : Nat) (w : World) (hl : l.length = n) (hcap : n ≤ cap) (hn : n ≤ 1000) (hr : Rd w w.heap.size 3 A n (l.flatMap pkc)) (hB : B ≤ w.heap.size) (hp : Pred T pay M p B w) :
    Calls Try.prog 40 #[.iface T pay, .slice A n cap] w fun e w' => e = .returned (.int .i64 (leastP p l).2) ∧ Below w.heap.size w w' := by
  have Hp := hide hp
  clear hp
  have hnil := iface_nil
  go_enter Try.func40, Try.ntmps40
  go_wp2_with (go_at_call 53; refine (shrunk_any w.heap.size T pay M p A n cap l B _ (Sched.of_rd hl hcap (hr.below (by repeat' (first | with_reducible exact Below.refl _ _ | with_reducible assumption | with_reducible refine Below.alloc ?_ ?_ _ | with_reducible refine Below.setCell ?_ ?_ _ | with_reducible refine Below.drew ?_ | with_reducible refine below_drewN ?_ _ | with_reducible refine Below.trans ?_ (Below.mono (by with_reducible assumption) ?_) | omega | (simp <;> omega)))) (by simp)) hn ⟨by go_simp, by go_simp, by go_simp, by simp⟩ hB (Hp.out.below ((Below.refl _ _).alloc hB _))).mono ?_; rintro e w1 ⟨A', n', cap', rfl, hs1, hlc1, hb1⟩; have hk1 := hlc1.2.1)
  go_ret
  exact ⟨rfl, (by repeat' (first | with_reducible exact Below.refl _ _ | with_reducible assumption | with_reducible refine Below.alloc ?_ ?_ _ | with_reducible refine Below.setCell ?_ ?_ _ | with_reducible refine Below.drew ?_ | with_reducible refine below_drewN ?_ _ | with_reducible refine Below.trans ?_ (Below.mono (by with_reducible assumption) ?_) | omega | (simp <;> omega)))⟩

set_option maxHeartbeats 1000000 in
set_option maxRecDepth 100000 in
theorem minimal_any (T : TypeId) (pay : Value) (M : Nat) (p : List Pk → Bool) (A : Option Addr) (n cap : Nat) (l : List Pk) (B : Nat) (w : World) (hl : l.length = n) (hcap : n ≤ cap) (hn : n ≤ 1000) (hr : Rd w w.heap.size 3 A n (l.flatMap pkc)) (hB : B ≤ w.heap.size) (hp : Pred T pay M p B w) :
    Calls Try.prog 42 #[.iface T pay, .slice A n cap] w fun e w' => e = .returned (.bool (minimalP p l)) ∧ Below w.heap.size w w' := by
  have Hp := hide hp
  clear hp
  have hnil := iface_nil
  obtain ⟨R, hR⟩ : ∃ R, R = minimalP p l := ⟨_, rfl⟩
  have HR := hide hR
  rw [← hR]
  clear hR
  go_enter Try.func42, Try.ntmps42
  go_wp2_with (go_at_call 54; refine (kbad_s w.heap.size 0 T pay M p A n cap l B _ (Sched.of_rd hl hcap (hr.below (by repeat' (first | with_reducible exact Below.refl _ _ | with_reducible assumption | with_reducible refine Below.alloc ?_ ?_ _ | with_reducible refine Below.setCell ?_ ?_ _ | with_reducible refine Below.drew ?_ | with_reducible refine below_drewN ?_ _ | with_reducible refine Below.trans ?_ (Below.mono (by with_reducible assumption) ?_) | omega | (simp <;> omega)))) (by simp)) hn ⟨by go_simp, by go_simp, by go_simp, by simp⟩ hB (Hp.out.below ((Below.refl _ _).alloc hB _)) (by omega) (by omega)).mono ?_; rintro e w1 ⟨rfl, hlc1, hs1, hb1⟩)
  · have hpl : p l = false := by have h : (!p l) = true := (by assumption); simpa using h
    go_ret
    exact ⟨by rw [HR.out]; simp [minimalP, hpl], (by repeat' (first | with_reducible exact Below.refl _ _ | with_reducible assumption | with_reducible refine Below.alloc ?_ ?_ _ | with_reducible refine Below.setCell ?_ ?_ _ | with_reducible refine Below.drew ?_ | with_reducible refine below_drewN ?_ _ | with_reducible refine Below.trans ?_ (Below.mono (by with_reducible assumption) ?_) | omega | (simp <;> omega)))⟩
  · have hpl : p l = true := by have h : (!p l) = false := (by assumption); simpa using h
    have hs0 := hs1 A n cap l (Sched.of_rd hl hcap (hr.below (by repeat' (first | with_reducible exact Below.refl _ _ | with_reducible assumption | with_reducible refine Below.alloc ?_ ?_ _ | with_reducible refine Below.setCell ?_ ?_ _ | with_reducible refine Below.drew ?_ | with_reducible refine below_drewN ?_ _ | with_reducible refine Below.trans ?_ (Below.mono (by with_reducible assumption) ?_) | omega | (simp <;> omega)))) (by simp))
    have hb0 : Below w.heap.size w w1 := (by repeat' (first | with_reducible exact Below.refl _ _ | with_reducible assumption | with_reducible refine Below.alloc ?_ ?_ _ | with_reducible refine Below.setCell ?_ ?_ _ | with_reducible refine Below.drew ?_ | with_reducible refine below_drewN ?_ _ | with_reducible refine Below.trans ?_ (Below.mono (by with_reducible assumption) ?_) | omega | (simp <;> omega)))
    simp only [hpl, Bool.not_true]
    go_loopw [18] (fun t wr => ∃ (i : Nat) (ask : Nat), t = .int .i64 i ∧ i ≤ n ∧ ask = i + 1 ∧ (∀ j, j < i → p (l.eraseIdx j) = false) ∧ Sched w.heap.size wr A n cap l ∧ LkC w.heap.size T pay ask wr ∧ Below w.heap.size w wr)
      (fun t _ => n - (intOf t).toNat)
    case atStart =>
      exact ⟨0, 1, rfl, by omega, rfl, fun j h => absurd h (Nat.not_lt_zero j), hs0, hlc1, hb0⟩
    case round =>
      obtain ⟨i, ask, rfl, hi, hask, hall, hs, hlc, hbw⟩ := hrel
      have hKz := hlc.2.2.2
      have Hs := hide hs
      have Hlc := hide hlc
      have Hall := hide hall
      clear hs hlc hall
      by_cases hlt : i < n
      · go_wp2_with (first
          | (go_at_call 55; refine (without_s w.heap.size n cap i A l _ Hs.out (by omega) hlt hKz).mono ?_; rintro e w2 ⟨A2, n2, cap2, rfl, hs2, hb2⟩)
          | (go_at_call 54; refine (kbad_s w.heap.size ask T pay M p A2 n2 cap2 (l.eraseIdx i) B _ hs2 (by rw [← hs2.1, List.length_eraseIdx_of_lt (by omega)]; omega) (Hlc.out.below hb2) hB (Hp.out.below ((hbw.trans (hb2.mono (Nat.le_of_lt hKz))).mono hB)) (by omega) (by omega)).mono ?_; rintro e w3 ⟨rfl, hlc3, hs3, hb3⟩))
        · have hpx : p (l.eraseIdx i) = true := by assumption
          go_ret
          refine ⟨?_, (hbw.trans (hb2.mono (Nat.le_of_lt hKz))).trans hb3⟩
          rw [HR.out]
          have : minimalP p l = false := by
            cases h : minimalP p l with
            | false => rfl
            | true => have := ((minimalP_iff p l).1 h).2 i (by omega); rw [hpx] at this; cases this
          rw [this]
          rfl
        · have hpx : p (l.eraseIdx i) = false := by assumption
          refine ⟨⟨i + 1, ask + 1, by go_num, by omega, by omega, fun j hj => ?_, hs3 _ _ _ _ (Hs.out.below hb2), hlc3, (hbw.trans (hb2.mono (Nat.le_of_lt hKz))).trans hb3⟩, by simp [intOf]; omega⟩
          by_cases h : j = i
          · subst h; exact hpx
          · exact Hall.out j (by omega)
      · obtain rfl : i = n := by omega
        go_wp2
        go_ret
        refine ⟨?_, hbw⟩
        rw [HR.out, (minimalP_iff p l).2 ⟨hpl, fun j hj => Hall.out j (by omega)⟩]
        rfl
end Go.Proofs.Ytmpbaanlagmacaa
