/- The recovery code, told purely: Next's loop. No program. -/
import Derived.Test.YtapjfhbonfehpaaGreatDoorV23
import Derived.Test.YtapjfhbonfehpaaGreatDoorV42
set_option linter.unusedSimpArgs false
set_option linter.unusedVariables false
namespace Go.Proofs.YtapjfhbonfehpaaGreatDoor
open Go.RowKit
def vE (a : Int) : AS := ⟨1, a, 0, 0, 0, 0, 0, 0⟩
def stepped (b : Bool) (c : RC) : RC := if b = true then { c with step := c.step + 1 } else c
inductive Spin (T C B : Int) (N : Nat) : RC → RC × AS × Bool → Prop
 | act (c : RC) (a : AS) (A' : List AS) (h : c.A = a :: A') : Spin T C B N c ({ c with A := A' }, a, false)
 | load (c : RC) (l : Int) (L' : List Int) (h : c.A = []) (hl : c.L = l :: L') : Spin T C B N c ({ c with ld := true }, vE l, false)
 | done (c : RC) (h : c.A = []) (hl : c.L = []) (h5 : 5 ≤ c.step) : Spin T C B N c ({ c with en := true }, A0, true)
 | turn (c : RC) (r : RC × AS × Bool) (h : c.A = []) (hl : c.L = []) (h5 : c.step < 5) (k : Spin T C B N (stepped (bH T C B N c).1 (bH T C B N c).2) r) : Spin T C B N c r
def eE (c : RC) (x : W3) : RC := if c.ld = true then { c with F := c.F ++ [(c.L.headD 0, x)], L := c.L.tail, ld := false } else c
def mu (nA nL : Nat) (step part : Int) (nP nS nH : Nat) : Nat := if 0 < nA ∨ 0 < nL then 0 else 1 + (5 - step).toNat * 8 + 4 * (nP + nS + nH) + (3 - part).toNat
def RC.mu (c : RC) : Nat := Go.Proofs.YtapjfhbonfehpaaGreatDoor.mu c.A.length c.L.length c.step c.part c.P.length c.S.length c.H.length
section
variable {T C B : Int} {N : Nat} {c : RC}
theorem iv (hv : aC T C B) (hN : ah T C B 7 = (N : Int)) {x : W3} (h : dB T C B x = true) : 0 ≤ aF T C B (aT x.f).1 ∧ aF T C B (aT x.f).1 + 2 + 3 * aD T C B (aT x.f).1 ≤ (N : Int) ∧ 0 < aD T C B (aT x.f).1 ∧ aD T C B (aT x.f).1 ≤ 32 := by
 have hok := h;unfold dB at hok;simp only [Bool.and_eq_true, decide_eq_true_eq] at hok;have hn : aD T C B (aT x.f).1 ≠ 0 := by
  intro e;have h2 := hok.2;unfold aD at e;unfold aF at h2;split at e
  ·rename_i hneg;rw [if_pos hneg] at h2;omega
  ·split at e <;> omega
 obtain ⟨k, hk, hk1, hk2, hk3⟩ := kv T C B _ hv hn;omega
theorem uy (h : c.ok T C B N) {x : W3} (hx : x.ok) : (eE c x).ok T C B N ∧ (eE c x).ld = false := by
 unfold eE;by_cases hl : c.ld = true
 ·rw [if_pos hl];obtain ⟨hL, hA⟩ := h.ldL hl;obtain ⟨l, L', LV⟩ := List.exists_cons_of_ne_nil hL;have hlen : c.L.length = L'.length + 1 := by rw [LV]; rfl
  refine ⟨⟨h.st, h.pt, ?_, h.Am, h.DP, ?_, ?_, h.Pk, h.Sk, h.Hk, ?_, ?_, ?_, ?_, h.z0, fun e => by cases e⟩, rfl⟩
  ·have := h.FL;show (c.F ++ [_]).length + c.L.tail.length ≤ 200;rw [List.length_append, LV, List.tail_cons];simp only [List.length_cons, List.length_nil];omega
  ·intro q hq;rcases List.mem_append.1 hq with hq | hq
   ·exact h.Fk q hq
   ·obtain rfl := List.mem_singleton.1 hq;have := h.Lk l (by rw [LV]; exact List.mem_cons_self ..);rw [LV];exact ⟨this.1, this.2, hx⟩
  ·intro a ha;refine h.Lk a ?_;show a ∈ c.L;have ha' : a ∈ c.L.tail := ha;exact List.mem_of_mem_tail ha'
  ·intro h0 h1;have := h.e1 h0 h1;show (c.F ++ [_]).length + c.L.tail.length = 1;rw [List.length_append, LV, List.tail_cons];simp only [List.length_cons, List.length_nil];omega
  ·intro h0 h1;obtain ⟨h2, q0, r, h3, h4⟩ := h.e2 h0 h1;refine ⟨?_, q0, r ++ [(c.L.headD 0, x)], ?_, h4⟩
   ·show (c.F ++ [_]).length + c.L.tail.length = 3;rw [List.length_append, LV, List.tail_cons];simp only [List.length_cons, List.length_nil];omega
   ·show c.F ++ _ = _;rw [h3];rfl
  ·intro h0 h1;obtain ⟨q0, r, h3, h4⟩ := h.e3 h0 h1;refine ⟨q0, r ++ [(c.L.headD 0, x)], ?_, h4⟩;show c.F ++ _ = _;rw [h3];rfl
  ·intro h0 h1;obtain ⟨h2, h3⟩ := h.e4 h0 h1;refine ⟨h2, ?_⟩;show (c.F ++ [_]).length + c.L.tail.length = 1;rw [List.length_append, LV, List.tail_cons];simp only [List.length_cons, List.length_nil];omega
 ·rw [if_neg hl];exact ⟨h, by simpa using hl⟩
theorem RC.ok.fresh (h : c.ok T C B N) {c' : RC} (hL0 : c.L = []) (es : c'.step = c.step) (ep : c'.part = 0) (eL : c'.L = c.L) (eF : c'.F = c.F) (hA : c'.A.length ≤ 10000) (hD : c'.D.length + c'.P.length + c'.S.length + c'.H.length ≤ 9000) (hP : ∀ a ∈ c'.P, a ∈ c.P) (hS : ∀ a ∈ c'.S, a ∈ c.S) (hH : ∀ a ∈ c'.H, a ∈ c.H) (el : c'.ld = c.ld) : c'.ok T C B N := by
 refine ⟨by rw [es]; exact h.st, by rw [ep]; decide, by rw [eL, eF]; exact h.FL, hA, hD, by rw [eF]; exact h.Fk, by rw [eL]; exact h.Lk, fun a ha => h.Pk a (hP a ha), fun a ha => h.Sk a (hS a ha), fun a ha => h.Hk a (hH a ha), ?_, ?_, ?_, ?_, ?_, ?_⟩
 ·intro _ e; rw [ep] at e; cases e
 ·intro _ e; rw [ep] at e; cases e
 ·intro _ e; rw [ep] at e; cases e
 ·intro _ e; exact absurd ep e
 ·intro e; exact absurd ep e
 ·intro e;rw [el] at e;exact absurd hL0 (h.ldL e).1
theorem RC.ok.next (h : c.ok T C B N) {c' : RC} (hL0 : c.L = []) (Un : c.A = []) (h5 : c.step < 5) (es : c'.step = c.step + 1) (ep : c'.part = c.part) (p0 : c.part = 0) (eL : c'.L = c.L) (eF : c'.F = c.F) (hA : c'.A.length ≤ 10000) (hD : c'.D.length + c'.P.length + c'.S.length + c'.H.length ≤ 9000) (hP : ∀ a ∈ c'.P, a ∈ c.P) (hS : ∀ a ∈ c'.S, a ∈ c.S) (hH : ∀ a ∈ c'.H, a ∈ c.H) (el : c'.ld = c.ld) : c'.ok T C B N := by
 have st := h.st;refine ⟨by rw [es]; omega, by rw [ep, p0]; decide, by rw [eL, eF]; exact h.FL, hA, hD, by rw [eF]; exact h.Fk, by rw [eL]; exact h.Lk, fun a ha => h.Pk a (hP a ha), fun a ha => h.Sk a (hS a ha), fun a ha => h.Hk a (hH a ha), ?_, ?_, ?_, ?_, ?_, ?_⟩
 ·intro _ e; rw [ep, p0] at e; cases e
 ·intro _ e; rw [ep, p0] at e; cases e
 ·intro _ e; rw [ep, p0] at e; cases e
 ·intro _ e; rw [ep] at e; exact absurd p0 e
 ·intro e; rw [ep] at e; exact absurd p0 e
 ·intro e;rw [el] at e;exact absurd hL0 (h.ldL e).1
theorem wT (l : List Int) : (gZ l).length ≤ l.length + 1 := by
 unfold gZ;rw [List.length_append, List.length_map];split <;> simp
theorem vk (h : c.ok T C B N) (hA : c.A = []) (hL : c.L = []) (hv : aC T C B) (hN : ah T C B 7 = (N : Int)) (h0 : c.step = 0) : (stepped (bG T C B N c).1 (bG T C B N c).2).ok T C B N ∧ (stepped (bG T C B N c).1 (bG T C B N c).2).mu < c.mu := by
 have hpt := h.pt;have hDP := h.DP;have Te : c.mu = 1 + 40 + 4 * (c.P.length + c.S.length + c.H.length) + (3 - c.part).toNat := by
  unfold RC.mu Go.Proofs.YtapjfhbonfehpaaGreatDoor.mu;rw [hA, hL, h0];simp
 rw [Te];unfold bG;cases hP : c.P with
 | nil =>
  have p0 : c.part = 0 := by
   rcases Classical.em (c.part = 0) with e | e
   ·exact e
   ·rcases h.z0 e with h | h | h
    ·exact absurd hP h.2
    ·omega
    ·omega
  simp only [stepped, if_true];refine ⟨h.next hL hA oM rfl rfl p0 rfl rfl h.Am h.DP (fun _ h => h) (fun _ h => h) (fun _ h => h) rfl, ?_⟩;unfold RC.mu Go.Proofs.YtapjfhbonfehpaaGreatDoor.mu;simp only [hA, hL, h0, hP, List.length_nil, Nat.lt_irrefl, or_self, if_false];omega
 | cons a P' =>
  have LW : c.D.length + (a :: P').length + c.S.length + c.H.length ≤ 9000 := by rw [← hP]; exact h.DP
  have CB : ∀ b ∈ a :: P', iY T C B b = true ∧ 0 ≤ b ∧ b < (N : Int) := by rw [← hP]; exact h.Pk
  have aeX : c.D.length + P'.length + c.S.length + c.H.length ≤ 8999 := by simp only [List.length_cons] at LW; omega
  have hpl : c.P.length = P'.length + 1 := by rw [hP]; rfl
  have TZ := h.Pk a (by rw [hP]; exact List.mem_cons_self ..);have hld : c.ld = false := by
   cases e : c.ld with
   | false => rfl
   | true => exact absurd hL (h.ldL e).1
  simp only;split
  ·rename_i p0;simp only [stepped, Bool.false_eq_true, if_false];refine ⟨⟨h.st, by simp, by simp, h.Am, LW, by simp, ?_, CB, h.Sk, h.Hk, by simp, by simp, by simp, by simp, ?_, ?_⟩, ?_⟩
   ·intro b hb;obtain rfl := List.mem_singleton.1 hb;exact TZ.2
   ·intro _;exact .inl ⟨h0, by simp⟩
   ·intro e;exact absurd (hld.symm.trans e) dM
   ·unfold RC.mu Go.Proofs.YtapjfhbonfehpaaGreatDoor.mu;simp;omega
  ·split
   ·rename_i p0 hw;have hF := h.e1 h0 hw.1;rw [hL] at hF;obtain ⟨q0, hq⟩ := B7 (l := c.F) (by simpa using hF);have hl : dw c.F = q0.2 := (by rw [hq]; exact iw [] q0);rw [hl] at hw ⊢;obtain ⟨w1, w2, w3, w4⟩ := iv hv hN hw.2;simp only [stepped, Bool.false_eq_true, if_false];refine ⟨⟨h.st, by simp, by simp [hq], h.Am, LW, h.Fk, ?_, CB, h.Sk, h.Hk, by simp, ?_, by simp, ?_, ?_, ?_⟩, ?_⟩
    ·intro b hb;simp only [List.mem_cons, List.not_mem_nil, or_false] at hb;rcases hb with rfl | rfl <;> omega
    ·intro _ _;exact ⟨by simp [hq], q0, [], hq, hw.2⟩
    ·intro e;exfalso;have e' : c.step = 2 ∨ c.step = 3 := e;omega
    ·intro _;exact .inl ⟨h0, by simp⟩
    ·intro e;exact absurd (hld.symm.trans e) dM
    ·unfold RC.mu Go.Proofs.YtapjfhbonfehpaaGreatDoor.mu;simp;omega
   ·split
    ·rename_i p0 hnw hw;obtain ⟨q0, r, fl, p, hq, hq2, hok⟩ := h.p2 h0 hw.1 hL;have hl : dw c.F = p.2 := (by rw [hq2]; exact iw fl p);have LF : headW c.F = q0.2 := (by rw [hq]; rfl);have hF3 := (h.e2 h0 hw.1).1;rw [hL] at hF3;have aeW : c.F.length = 3 := (by simpa using hF3);rw [hl, LF] at hw ⊢;obtain ⟨w1, w2, w3, w4⟩ := iv hv hN hok;have hen : (iA (aF T C B (aT q0.2.f).1) (3 * p.2.v.toNat)).length = 3 * p.2.v.toNat := mI _ _;simp only [stepped, Bool.false_eq_true, if_false];refine ⟨⟨h.st, by simp, ?_, h.Am, LW, h.Fk, ?_, CB, h.Sk, h.Hk, by simp, by simp, ?_, ?_, ?_, ?_⟩, ?_⟩
     ·show c.F.length + (iA _ _).length ≤ 200;rw [hen];omega
     ·intro b hb;have hb' : b ∈ iA (aF T C B (aT q0.2.f).1) (3 * p.2.v.toNat) := hb;unfold iA at hb';obtain ⟨i, hi, rfl⟩ := List.mem_map.1 hb';rw [List.mem_range] at hi;omega
     ·intro _ _;refine ⟨q0, r, hq, fun e => ?_⟩;unfold dB at hok;rw [e] at hok;simp at hok
     ·intro e;exfalso;have e' : c.step = 2 ∨ c.step = 3 := e;omega
     ·intro _;exact .inl ⟨h0, by simp⟩
     ·intro e;exact absurd (hld.symm.trans e) dM
     ·unfold RC.mu Go.Proofs.YtapjfhbonfehpaaGreatDoor.mu;rw [if_pos (.inr (by show 0 < (iA _ _).length; rw [hen]; omega))];omega
    ·split
     ·simp only [stepped, Bool.false_eq_true, if_false];refine ⟨h.fresh hL rfl rfl rfl rfl h.Am (by show c.D.length + P'.length + c.S.length + c.H.length ≤ 9000; omega) (fun b hb => by rw [hP]; exact List.mem_cons_of_mem _ hb) (fun _ h => h) (fun _ h => h) rfl, ?_⟩;unfold RC.mu Go.Proofs.YtapjfhbonfehpaaGreatDoor.mu;simp only [hA, hL, h0, List.length_nil, Nat.lt_irrefl, or_self, if_false, List.length_cons] at hpl ⊢;have := h.pt;omega
     ·simp only [stepped, Bool.false_eq_true, if_false];refine ⟨h.fresh hL rfl rfl rfl rfl (by simp [hA]) (by show (c.D ++ [a]).length + P'.length + c.S.length + c.H.length ≤ 9000; rw [List.length_append]; simp only [List.length_cons, List.length_nil]; omega) (fun b hb => by rw [hP]; exact List.mem_cons_of_mem _ hb) (fun _ h => h) (fun _ h => h) rfl, ?_⟩;unfold RC.mu Go.Proofs.YtapjfhbonfehpaaGreatDoor.mu;rw [if_pos (.inl sM)];omega
theorem sN (h : c.ok T C B N) (hA : c.A = []) (hL : c.L = []) (h0 : c.step = 2) : (stepped (cm c).1 (cm c).2).ok T C B N ∧ (stepped (cm c).1 (cm c).2).mu < c.mu := by
 have hpt := h.pt;have hDP := h.DP;have Te : c.mu = 1 + (5 - (2 : Int)).toNat * 8 + 4 * (c.P.length + c.S.length + c.H.length) + (3 - c.part).toNat := by
  unfold RC.mu Go.Proofs.YtapjfhbonfehpaaGreatDoor.mu;rw [hA, hL, h0];simp
 rw [Te];unfold cm;cases hP : c.S with
 | nil =>
  have p0 : c.part = 0 := by
   rcases Classical.em (c.part = 0) with e | e
   ·exact e
   ·rcases h.z0 e with h | h | h
    ·omega
    ·exact absurd hP h.2
    ·omega
  simp only [stepped, if_true];refine ⟨h.next hL hA oM rfl rfl p0 rfl rfl h.Am h.DP (fun _ h => h) (fun _ h => h) (fun _ h => h) rfl, ?_⟩;unfold RC.mu Go.Proofs.YtapjfhbonfehpaaGreatDoor.mu;simp only [hA, hL, h0, hP, List.length_nil, Nat.lt_irrefl, or_self, if_false];omega
 | cons a P' =>
  have CB : ∀ b ∈ a :: P', 0 ≤ b ∧ b < (N : Int) := by rw [← hP]; exact h.Sk
  have hpl : c.S.length = P'.length + 1 := by rw [hP]; rfl
  have TZ := h.Sk a (by rw [hP]; exact List.mem_cons_self ..);have hld : c.ld = false := by
   cases e : c.ld with
   | false => rfl
   | true => exact absurd hL (h.ldL e).1
  simp only;split
  ·rename_i p0;simp only [stepped, Bool.false_eq_true, if_false];refine ⟨⟨h.st, by simp, by simp, h.Am, by rw [← hP]; exact h.DP, by simp, ?_, h.Pk, CB, h.Hk, ?_, ?_, ?_, by simp, ?_, ?_⟩, ?_⟩
   ·intro b hb;obtain rfl := List.mem_singleton.1 hb;exact TZ
   ·intro e; exfalso; have e' : c.step = 0 := e; omega
   ·intro e; exfalso; have e' : c.step = 0 := e; omega
   ·intro e; exfalso; have e' : c.step = 0 := e; omega
   ·intro _;exact .inr (.inl ⟨h0, by simp⟩)
   ·intro e;exact absurd (hld.symm.trans e) dM
   ·unfold RC.mu Go.Proofs.YtapjfhbonfehpaaGreatDoor.mu;simp;omega
  ·split
   ·simp only [stepped, Bool.false_eq_true, if_false];refine ⟨h.fresh hL rfl rfl rfl rfl (by simp [hA]) (by show (c.D ++ [a]).length + c.P.length + P'.length + c.H.length ≤ 9000; rw [List.length_append]; simp only [List.length_cons, List.length_nil]; omega) (fun _ h => h) (fun b hb => by rw [hP]; exact List.mem_cons_of_mem _ hb) (fun _ h => h) rfl, ?_⟩;unfold RC.mu Go.Proofs.YtapjfhbonfehpaaGreatDoor.mu;rw [if_pos (.inl sM)];omega
   ·simp only [stepped, Bool.false_eq_true, if_false];refine ⟨h.fresh hL rfl rfl rfl rfl h.Am (by show c.D.length + c.P.length + P'.length + c.H.length ≤ 9000; omega) (fun _ h => h) (fun b hb => by rw [hP]; exact List.mem_cons_of_mem _ hb) (fun _ h => h) rfl, ?_⟩;unfold RC.mu Go.Proofs.YtapjfhbonfehpaaGreatDoor.mu;simp only [hA, hL, h0, List.length_nil, Nat.lt_irrefl, or_self, if_false, List.length_cons] at hpl ⊢;omega
theorem vh (h : c.ok T C B N) (hA : c.A = []) (hL : c.L = []) (h0 : c.step = 3) : (stepped (dE c).1 (dE c).2).ok T C B N ∧ (stepped (dE c).1 (dE c).2).mu < c.mu := by
 have hpt := h.pt;have hDP := h.DP;have Te : c.mu = 1 + (5 - (3 : Int)).toNat * 8 + 4 * (c.P.length + c.S.length + c.H.length) + (3 - c.part).toNat := by
  unfold RC.mu Go.Proofs.YtapjfhbonfehpaaGreatDoor.mu;rw [hA, hL, h0];simp
 rw [Te];unfold dE;cases hP : c.H with
 | nil =>
  have p0 : c.part = 0 := by
   rcases Classical.em (c.part = 0) with e | e
   ·exact e
   ·rcases h.z0 e with h | h | h
    ·omega
    ·omega
    ·exact absurd hP h.2
  simp only [stepped, if_true];refine ⟨h.next hL hA oM rfl rfl p0 rfl rfl h.Am h.DP (fun _ h => h) (fun _ h => h) (fun _ h => h) rfl, ?_⟩;unfold RC.mu Go.Proofs.YtapjfhbonfehpaaGreatDoor.mu;simp only [hA, hL, h0, hP, List.length_nil, Nat.lt_irrefl, or_self, if_false];omega
 | cons a P' =>
  have CB : ∀ b ∈ a :: P', 0 ≤ b ∧ b < (N : Int) := by rw [← hP]; exact h.Hk
  have hpl : c.H.length = P'.length + 1 := by rw [hP]; rfl
  have TZ := h.Hk a (by rw [hP]; exact List.mem_cons_self ..);have hld : c.ld = false := by
   cases e : c.ld with
   | false => rfl
   | true => exact absurd hL (h.ldL e).1
  simp only;split
  ·rename_i p0;simp only [stepped, Bool.false_eq_true, if_false];refine ⟨⟨h.st, by simp, by simp, h.Am, by rw [← hP]; exact h.DP, by simp, ?_, h.Pk, h.Sk, CB, ?_, ?_, ?_, by simp, ?_, ?_⟩, ?_⟩
   ·intro b hb;obtain rfl := List.mem_singleton.1 hb;exact TZ
   ·intro e; exfalso; have e' : c.step = 0 := e; omega
   ·intro e; exfalso; have e' : c.step = 0 := e; omega
   ·intro e; exfalso; have e' : c.step = 0 := e; omega
   ·intro _;exact .inr (.inr ⟨h0, by simp⟩)
   ·intro e;exact absurd (hld.symm.trans e) dM
   ·unfold RC.mu Go.Proofs.YtapjfhbonfehpaaGreatDoor.mu;simp;omega
  ·split
   ·simp only [stepped, Bool.false_eq_true, if_false];refine ⟨h.fresh hL rfl rfl rfl rfl (by simp [hA]) (by show (c.D ++ [a]).length + c.P.length + c.S.length + P'.length ≤ 9000; rw [List.length_append]; simp only [List.length_cons, List.length_nil]; omega) (fun _ h => h) (fun _ h => h) (fun b hb => by rw [hP]; exact List.mem_cons_of_mem _ hb) rfl, ?_⟩;unfold RC.mu Go.Proofs.YtapjfhbonfehpaaGreatDoor.mu;rw [if_pos (.inl sM)];omega
   ·simp only [stepped, Bool.false_eq_true, if_false];refine ⟨h.fresh hL rfl rfl rfl rfl h.Am (by show c.D.length + c.P.length + c.S.length + P'.length ≤ 9000; omega) (fun _ h => h) (fun _ h => h) (fun b hb => by rw [hP]; exact List.mem_cons_of_mem _ hb) rfl, ?_⟩;unfold RC.mu Go.Proofs.YtapjfhbonfehpaaGreatDoor.mu;simp only [hA, hL, h0, List.length_nil, Nat.lt_irrefl, or_self, if_false, List.length_cons] at hpl ⊢;omega
theorem xx (h : c.ok T C B N) (hA : c.A = []) (hL : c.L = []) (h0 : c.step = 1 ∨ c.step = 4) : (stepped (jD c).1 (jD c).2).ok T C B N ∧ (stepped (jD c).1 (jD c).2).mu < c.mu := by
 have hDP := h.DP;have p0 : c.part = 0 := by
  rcases Classical.em (c.part = 0) with e | e
  ·exact e
  ·rcases h.z0 e with h | h | h <;> omega
 have hk := wT c.D;simp only [stepped, jD, if_true];refine ⟨h.next hL hA oM rfl rfl p0 rfl rfl (by show (c.A ++ gZ c.D).length ≤ 10000; rw [hA, List.nil_append]; omega) (by show ([] : List Int).length + c.P.length + c.S.length + c.H.length ≤ 9000; simp only [List.length_nil]; omega) (fun _ h => h) (fun _ h => h) (fun _ h => h) rfl, ?_⟩;unfold RC.mu Go.Proofs.YtapjfhbonfehpaaGreatDoor.mu;simp only [hA, hL, List.length_nil, Nat.lt_irrefl, or_self, if_false, List.nil_append];split
 ·omega
 ·omega
theorem su (h : c.ok T C B N) (hA : c.A = []) (hL : c.L = []) (hv : aC T C B) (hN : ah T C B 7 = (N : Int)) (h5 : c.step < 5) : (stepped (bH T C B N c).1 (bH T C B N c).2).ok T C B N ∧ (stepped (bH T C B N c).1 (bH T C B N c).2).mu < c.mu := by
 have st := h.st;unfold bH;by_cases h0 : c.step = 0
 ·rw [if_pos h0];exact vk h hA hL hv hN h0
 rw [if_neg h0];by_cases h2 : c.step = 2
 ·rw [if_pos h2];exact sN h hA hL h2
 rw [if_neg h2];by_cases h3 : c.step = 3
 ·rw [if_pos h3];exact vh h hA hL h3
 rw [if_neg h3];exact xx h hA hL oM
end
section
variable {T C B : Int} {N : Nat} {ws : List W3} {F : List (Int × W3)}
def lq (ws : List W3) (F : List (Int × W3)) : Prop := ∀ q ∈ F, 0 ≤ q.1 ∧ q.2 = ws.getD q.1.toNat z3
theorem uE : ∀ (F : List (Int × W3)) (o : List W3), lq ws F → ∀ k : Nat, k < o.length → ((F.foldl (fun o p => o.set p.1.toNat p.2) o).getD k z3 = o.getD k z3 ∧ (∀ q ∈ F, q.1.toNat ≠ k)) ∨ (F.foldl (fun o p => o.set p.1.toNat p.2) o).getD k z3 = ws.getD k z3
 | [], o, _, k, _ => .inl ⟨rfl, by simp⟩
 | q :: F, o, h, k, hk => by
  rw [List.foldl_cons];have hq := h q (List.mem_cons_self ..);rcases uE F (o.set q.1.toNat q.2) (fun x hx => h x (List.mem_cons_of_mem _ hx)) k (by rw [List.length_set]; exact hk) with ⟨h1, h2⟩ | h1
  ·by_cases e : q.1.toNat = k
   ·right;rw [h1, List.getD_eq_getElem?_getD, e, List.getElem?_set_self hk, hq.2, e];rfl
   ·left;refine ⟨?_, ?_⟩
    ·rw [h1, List.getD_eq_getElem?_getD, List.getElem?_set_ne e, ← List.getD_eq_getElem?_getD]
    ·intro x hx;rcases List.mem_cons.1 hx with rfl | hx
     ·exact e
     ·exact h2 x hx
  ·exact .inr h1
theorem sG (h : lq ws F) {k : Nat} (hk : k < N) (hm : (k : Int) ∈ F.map Prod.fst) : (cK N F).getD k z3 = ws.getD k z3 := by
 rcases uE (ws := ws) F (List.replicate N z3) h k (by rw [List.length_replicate]; exact hk) with ⟨-, h2⟩ | h1
 ·obtain ⟨q, hq, e⟩ := List.mem_map.1 hm;exact absurd (by rw [e]; exact Int.toNat_natCast k) (h2 q hq)
 ·exact h1
theorem AC {u : List W3} {p : Nat} : ∀ k, (∀ j, j < 3 * k → u.getD (p + 2 + j) z3 = ws.getD (p + 2 + j) z3) → dQ u p k = dQ ws p k
 | 0, _ => rfl
 | k + 1, h => by
  unfold dQ;rw [AC k (fun j hj => h j oM)];have e0 := h (3 * k) oM;have e1 := h (3 * k + 1) oM;have e2 := h (3 * k + 2) oM;rw [show p + 2 + 3 * k + 1 = p + 2 + (3 * k + 1) by omega, show p + 2 + 3 * k + 2 = p + 2 + (3 * k + 2) by omega, e0, e1, e2]
theorem rE {u : List W3} {p : Nat} {x : W3} (hx : u.getD p z3 = x) (hw : dB T C B x = false) (f0 : 0 ≤ x.f) : aj T C B u p = dV x := by
 unfold aj;rw [hx];simp only;by_cases h0 : (aT x.f).1 = 0
 ·rw [if_pos h0]
 ·rw [if_neg h0];have hf : ¬ x.f = 0 := by
   intro e;rw [e] at h0;exact h0 dM
  have hpos : (aT x.f).1 > 0 := by
   unfold aT at h0 ⊢;split
   ·rename_i h;rw [if_pos h] at h0;exact absurd rfl h0
   ·rename_i h;simp only at h ⊢;omega
  have hneg : ¬ aF T C B (aT x.f).1 ≥ 0 := by
   intro e;unfold dB at hw;simp [hf, hpos, e] at hw
  have hN : aD T C B (aT x.f).1 = 0 := by
   unfold aF at hneg;unfold aD;split
   ·rfl
   ·rename_i h;rw [if_neg h] at hneg;omega
  have hr : gK T C B u (aT x.f).1 = none := by
   unfold gK;rw [if_pos hN]
  rw [hr]
theorem jQ {u : List W3} {p : Nat} {x : W3} (hx : u.getD p z3 = x) (hb : ¬ (1 ≤ (u.getD ((aF T C B (aT x.f).1).toNat + 1) z3).v ∧ (u.getD ((aF T C B (aT x.f).1).toNat + 1) z3).v ≤ aD T C B (aT x.f).1)) : aj T C B u p = dV x := by
 unfold aj;rw [hx];simp only;by_cases h0 : (aT x.f).1 = 0
 ·rw [if_pos h0]
 ·rw [if_neg h0];have hr : gK T C B u (aT x.f).1 = none := by
   unfold gK;split
   ·rfl
   ·rw [if_neg];intro e;unfold mF at e;simp only [Bool.and_eq_true, decide_eq_true_eq] at e;exact hb ⟨e.1.1.2, e.1.2⟩
  rw [hr]
theorem ya {u : List W3} {p : Nat} {x : W3} (hx : u.getD p z3 = x) (hx2 : ws.getD p z3 = x) (hs : u.getD (aF T C B (aT x.f).1).toNat z3 = ws.getD (aF T C B (aT x.f).1).toNat z3) (hc : u.getD ((aF T C B (aT x.f).1).toNat + 1) z3 = ws.getD ((aF T C B (aT x.f).1).toNat + 1) z3) (he : ∀ j, j < 3 * (ws.getD ((aF T C B (aT x.f).1).toNat + 1) z3).v.toNat → u.getD ((aF T C B (aT x.f).1).toNat + 2 + j) z3 = ws.getD ((aF T C B (aT x.f).1).toNat + 2 + j) z3) : aj T C B u p = aj T C B ws p := by
 have hr : gK T C B u (aT x.f).1 = gK T C B ws (aT x.f).1 := by
  unfold gK;rw [hs, hc, AC _ he]
 unfold aj;rw [hx, hx2];simp only [hr]
theorem yC (hv : aC T C B) (hN : ah T C B 7 = (N : Int)) (h : lq ws F) {p : Nat} (hp : p < N) (hpm : (p : Int) ∈ F.map Prod.fst) (f0 : 0 ≤ (ws.getD p z3).f)
  (hc : dB T C B (ws.getD p z3) = false ∨ (dB T C B (ws.getD p z3) = true ∧ aF T C B (aT (ws.getD p z3).f).1 ∈ F.map Prod.fst ∧ aF T C B (aT (ws.getD p z3).f).1 + 1 ∈ F.map Prod.fst ∧ (¬ (1 ≤ (ws.getD ((aF T C B (aT (ws.getD p z3).f).1).toNat + 1) z3).v ∧ (ws.getD ((aF T C B (aT (ws.getD p z3).f).1).toNat + 1) z3).v ≤ aD T C B (aT (ws.getD p z3).f).1) ∨ ∀ j : Nat, j < 3 * (ws.getD ((aF T C B (aT (ws.getD p z3).f).1).toNat + 1) z3).v.toNat → aF T C B (aT (ws.getD p z3).f).1 + 2 + (j : Int) ∈ F.map Prod.fst))) : aj T C B (cK N F) p = aj T C B ws p := by
 have hx := sG (N := N) h hp hpm;rcases hc with hc | ⟨hw, h1, h2, h3⟩
 ·rw [rE hx hc f0, rE rfl hc f0]
 ·obtain ⟨w1, w2, w3, w4⟩ := iv hv hN hw;obtain ⟨k, hk⟩ : ∃ k : Nat, aF T C B (aT (ws.getD p z3).f).1 = (k : Int) := ⟨(aF T C B (aT (ws.getD p z3).f).1).toNat, by omega⟩;rw [hk] at h1 h2 h3 w2;have hkk : (aF T C B (aT (ws.getD p z3).f).1).toNat = k := by rw [hk]; exact Int.toNat_natCast k
  rw [Int.toNat_natCast] at h3;have g0 := sG (N := N) h (k := k) oM h1;have g1 := sG (N := N) h (k := k + 1) oM (by simpa using h2);rcases h3 with h3 | h3
  ·have hb : ¬ (1 ≤ (ws.getD ((aF T C B (aT (ws.getD p z3).f).1).toNat + 1) z3).v ∧ (ws.getD ((aF T C B (aT (ws.getD p z3).f).1).toNat + 1) z3).v ≤ aD T C B (aT (ws.getD p z3).f).1) := by rw [hkk]; exact h3
   rw [jQ hx (by rw [hkk, g1]; exact h3), jQ rfl hb]
  ·by_cases hgood : 1 ≤ (ws.getD (k + 1) z3).v ∧ (ws.getD (k + 1) z3).v ≤ aD T C B (aT (ws.getD p z3).f).1
   ·refine ya hx rfl (by rw [hkk]; exact g0) (by rw [hkk]; exact g1) (fun j hj => ?_);rw [hkk] at hj ⊢;refine sG (N := N) h oM ?_;have := h3 j hj;rwa [show ((k + 2 + j : Nat) : Int) = (k : Int) + 2 + (j : Int) by omega]
   ·rw [jQ hx (by rw [hkk, g1]; exact hgood), jQ rfl (by rw [hkk]; exact hgood)]
end
end Go.Proofs.YtapjfhbonfehpaaGreatDoor
