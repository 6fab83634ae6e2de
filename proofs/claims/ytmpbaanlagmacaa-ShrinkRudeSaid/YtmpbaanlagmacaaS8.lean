/- Package shrink: Least, Steps, Minimal. -/
import Derived.Test.YtmpbaanlagmacaaS7
namespace Go.Proofs.Ytmpbaanlagmacaa
open Go.RowKit

def tl : Value → Nat
  | .bool true => 1
  | _ => 0

theorem shrP_lt (p : List Pk → Bool) (k : Nat) (x : List Pk) (h : (passP p x.length x 0).length < x.length) : shrP p (k + 1) x = ((shrP p k (passP p x.length x 0)).1, x.length + (shrP p k (passP p x.length x 0)).2) := if_pos h
theorem shrP_ge (p : List Pk → Bool) (k : Nat) (x : List Pk) (h : ¬ (passP p x.length x 0).length < x.length) : shrP p (k + 1) x = (passP p x.length x 0, x.length) := if_neg h

set_option maxHeartbeats 1000000 in
set_option maxRecDepth 100000 in
theorem shrunk_any (K : Nat) (T : TypeId) (pay : Value) (M : Nat) (p : List Pk → Bool) (A : Option Addr) (n cap : Nat) (l : List Pk) (B : Nat) (w : World) (h : Sched K w A n cap l) (hn : n ≤ 1000) (hc : LkC K T pay 0 w) (hB : B ≤ K) (hp : Pred T pay M p B w) :
    Calls Try.prog 53 #[.pointer (some ⟨K, 0, none⟩), .slice A n cap] w fun e w' => ∃ A' n' cap', e = .returned (.slice A' n' cap') ∧ Sched K w' A' n' cap' (leastP p l).1 ∧ LkC K T pay (leastP p l).2 w' ∧ Below K w w' := by
  have hl := h.1
  have H := hide h
  have Hc := hide hc
  have Hp := hide hp
  clear h hc hp
  obtain ⟨F, hF⟩ : ∃ F, F = leastP p l := ⟨_, rfl⟩
  have HF := hide hF
  rw [← hF]
  clear hF
  go_enter Try.func53, Try.ntmps53
  go_wp2_with (go_at_call 54; refine (kbad_s K 0 T pay M p A n cap l B _ H.out hn Hc.out hB Hp.out (by omega) (by omega)).mono ?_; rintro e w1 ⟨rfl, hlc1, hs1, hb1⟩)
  · have hpl : p l = false := by have h : (!p l) = true := (by assumption); simpa using h
    go_ret
    refine ⟨A, n, cap, rfl, ?_, ?_, hb1⟩
    · rw [HF.out, leastP_false p l hpl]; exact hs1 _ _ _ _ H.out
    · rw [HF.out, leastP_false p l hpl]; exact hlc1
  · have hpl : p l = true := by have h : (!p l) = false := (by assumption); simpa using h
    have hF2 := leastP_true p l hpl
    rw [← HF.out] at hF2
    have HF2 := hide hF2
    clear hF2
    simp only [hpl, Bool.not_true]
    go_loopw [1, 5] (fun v b wr => ∃ (A' : Option Addr) (n' cap' : Nat) (x : List Pk) (less : Bool) (ask : Nat), v = .slice A' n' cap' ∧ b = .bool less ∧ Sched K wr A' n' cap' x ∧ n' ≤ n ∧ ask ≤ 1 + 1000 * (n - n') + (if less then 0 else 1000) ∧ LkC K T pay ask wr ∧ Below K w wr ∧
        (less = true → ∃ k, n' < k ∧ (shrP p k x).1 = F.1 ∧ ask + (shrP p k x).2 = F.2) ∧ (less = false → x = F.1 ∧ ask = F.2))
      (fun v b _ => lenOf' v + tl b)
    case atStart =>
      exact ⟨A, n, cap, l, true, 1, rfl, rfl, hs1 _ _ _ _ H.out, by omega, by omega, hlc1, hb1, fun _ => ⟨l.length + 1, by omega, by rw [HF2.out], by rw [HF2.out]⟩, fun h => by cases h⟩
    case round =>
      obtain ⟨A', n', cap', x, less, ask, rfl, rfl, hs, hnn, hask, hlc, hbw, ht, hf⟩ := hrel
      have hx := hs.1
      have hKz := hlc.2.2.2
      have Hs := hide hs
      have Hlc := hide hlc
      clear hs hlc
      cases less with
      | true =>
        have Ht := hide (ht rfl)
        clear ht hf
        simp only [if_true] at hask
        go_wp2_with (go_at_call 58; refine (pass_any K ask T pay M p A' n' cap' x B _ Hs.out (by omega) Hlc.out hB (Hp.out.below (hbw.mono hB)) (by omega) (by omega)).mono ?_; rintro e w2 ⟨A2, n2, cap2, rfl, hs2, hlc2, hb2⟩)
        obtain ⟨k, hk, ht1, ht2⟩ := Ht.out
        obtain ⟨k, rfl⟩ : ∃ k', k = k' + 1 := ⟨k - 1, by omega⟩
        have hy := hs2.1
        have hle : n2 ≤ n' := by rw [← hy, ← hx]; exact passP_len p _ x 0
        refine ⟨⟨A2, n2, cap2, passP p x.length x 0, decide (n2 < n'), ask + n', rfl, ?_, hs2, by omega, ?_, ?_, hbw.trans hb2, fun h => ?_, fun h => ?_⟩, ?_⟩
        · rw [← hy, hx]
        · by_cases h : n2 < n'
          · simp [h]; omega
          · simp [h]; omega
        · rw [hx] at hlc2
          exact hlc2
        · have h : n2 < n' := by simpa using h
          rw [shrP_lt p k x (by rw [hy, hx]; exact h)] at ht1 ht2
          exact ⟨k, by omega, ht1, by simp only [hx] at ht2 ⊢; omega⟩
        · have h : ¬ n2 < n' := by simpa using h
          rw [shrP_ge p k x (by rw [hy, hx]; exact h)] at ht1 ht2
          exact ⟨ht1, by simp only [hx] at ht2; omega⟩
        · by_cases h : n2 < n'
          · have h' : (passP p n' x 0).length < n' := by rw [← hx]; rw [hy, hx]; exact h
            simp [lenOf', tl, h', h]
          · have h' : ¬ (passP p n' x 0).length < n' := by rw [← hx]; rw [hy, hx]; exact h
            simp [lenOf', tl, h']
            omega
      | false =>
        have Hf := hide (hf rfl)
        clear ht hf
        go_wp2
        go_ret
        exact ⟨A', n', cap', rfl, Hf.out.1 ▸ Hs.out, Hf.out.2 ▸ Hlc.out, hbw⟩
end Go.Proofs.Ytmpbaanlagmacaa
