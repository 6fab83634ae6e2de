/- The recovery, plain law: what holds all along, and that a turn of the code keeps it. -/
import Derived.Test.YtapjfhbonfehpaaGreatDoorV43
import Derived.Test.YtapjfhbonfehpaaGreatDoorV52
set_option linter.unusedSimpArgs false
set_option linter.unusedVariables false
namespace Go.Proofs.YtapjfhbonfehpaaGreatDoor
open Go.RowKit Go.Maps
structure Lay (T C B : Int) (N : Nat) (ws R : List W3) : Prop where
 v : aC T C B
 n : ah T C B 7 = (N : Int)
 ap : apart T C B
 dP : (aY T C B).Nodup
 dS : (au T C B).Nodup
 dH : (bu T C B).Nodup
 len : ws.length = N
 ok : ∀ x ∈ ws, x.ok
 r : R = dI T C B ws
section
variable {T C B : Int} {N : Nat} {ws R : List W3}
theorem Lay.rlen (L : Lay T C B N ws R) : R.length = N := by rw [L.r, fP, L.len]
theorem Lay.okR (L : Lay T C B N ws R) : ∀ x ∈ R, x.ok := by rw [L.r]; exact zA T C B L.ok
theorem yy {l : List W3} (h : ∀ x ∈ l, x.ok) (p : Nat) : (l.getD p z3).ok := by
 rw [List.getD_eq_getElem?_getD];cases e : l[p]? with
 | none => exact nE
 | some x => exact h x (List.mem_of_getElem? e)
theorem Lay.inP (L : Lay T C B N ws R) {a : Int} (h : a ∈ aY T C B) : 0 ≤ a ∧ a < (N : Int) ∧ a < ah T C B 4 := by
 have h := ua L.v (pI h);have := L.n;omega
theorem Lay.inS (L : Lay T C B N ws R) {a : Int} (h : a ∈ au T C B) : 0 ≤ a ∧ a < (N : Int) := by
 have h := lW L.v h;have := L.n;omega
theorem Lay.inH (L : Lay T C B N ws R) {a : Int} (h : a ∈ bu T C B) : 0 ≤ a ∧ a < (N : Int) := by
 have h := tQ L.v h;have := L.n;omega
theorem Lay.rP (L : Lay T C B N ws R) {a : Int} (h : a ∈ aY T C B) : R.getD a.toNat z3 = aj T C B ws a.toNat := by
 have h2 := L.inP h;have h3 := L.len;rw [L.r];exact tx L.ap ws h oM
theorem Lay.rS (L : Lay T C B N ws R) {a : Int} (h : a ∈ au T C B) : R.getD a.toNat z3 = if bD (ws.getD a.toNat z3) = true then ei (ws.getD a.toNat z3) else ws.getD a.toNat z3 := by
 have h2 := L.inS h;have h3 := L.len;rw [L.r];exact l7 L.ap ws h oM
theorem Lay.rH (L : Lay T C B N ws R) {a : Int} (h : a ∈ bu T C B) : R.getD a.toNat z3 = z3 := by
 have h2 := L.inH h;have h3 := L.len;rw [L.r];exact tu ws h oM
theorem Lay.out (L : Lay T C B N ws R) {p : Nat} (hp : p < N) (h1 : kj (aY T C B) p = false) (h2 : kj (au T C B) p = false) (h3 : kj (bu T C B) p = false) : R.getD p z3 = ws.getD p z3 := by
 have hl := L.len;have hp' : p < ws.length := by omega
 rw [L.r, iJ _ _ _ _ _ hp', jA _ _ _ _ _ hp', jB _ _ _ _ _ hp', h1, h2, h3];simp
theorem Ir {l : List Int} (hl : ∀ a ∈ l, 0 ≤ a) {p : Nat} : kj l p = true ↔ (p : Int) ∈ l := by
 constructor
 ·intro h;obtain ⟨a, ha, e⟩ := kU h;have := hl a ha;rwa [show (p : Int) = a by omega]
 ·intro h;have := je h;rwa [Int.toNat_natCast] at this
theorem Lay.iP (L : Lay T C B N ws R) {p : Nat} : kj (aY T C B) p = true ↔ (p : Int) ∈ aY T C B := Ir (fun a ha => (L.inP ha).1)
theorem Lay.iS (L : Lay T C B N ws R) {p : Nat} : kj (au T C B) p = true ↔ (p : Int) ∈ au T C B := Ir (fun a ha => (L.inS ha).1)
theorem Lay.iH (L : Lay T C B N ws R) {p : Nat} : kj (bu T C B) p = true ↔ (p : Int) ∈ bu T C B := Ir (fun a ha => (L.inH ha).1)
theorem Lay.notSP (L : Lay T C B N ws R) {a : Int} (h : a ∈ au T C B) : ¬ a ∈ aY T C B ∧ ¬ a ∈ bu T C B := by
 have h1 := L.ap.1 a h;have h0 := L.inS h;refine ⟨fun h2 => ?_, fun h2 => ?_⟩
 ·rw [je h2] at h1;exact absurd h1.1 dM
 ·rw [je h2] at h1;exact absurd h1.2 dM
theorem Lay.notPH (L : Lay T C B N ws R) {a : Int} (h : a ∈ aY T C B) : ¬ a ∈ bu T C B := by
 intro h2;have h1 := L.ap.2 a h;rw [je h2] at h1;cases h1
end
def RC.rem (c : RC) (p : Nat) : Prop := (p : Int) ∈ c.P ∨ (p : Int) ∈ c.S ∨ (p : Int) ∈ c.H
def putA (u : List W3) (a : AS) : List W3 := if a.o = 3 then u.set a.l.toNat ⟨a.v2, a.r2, a.f2⟩ else u
theorem xK (u : List W3) (a : Int) (x : W3) : putA u (stA a x) = u.set a.toNat x := by unfold putA stA; rfl
theorem Dt (u : List W3) (a : Int) : putA u (jG a) = u := by unfold putA jG; rfl
theorem Dr (u : List W3) : putA u kJ = u := by unfold putA kJ; rfl
theorem Dq (u : List W3) : ∀ l : List Int, (l.map jG ++ [kJ]).foldl putA u = u
 | [] => by show putA u kJ = u; exact Dr u
 | a :: l => by
  show ((l.map jG ++ [kJ]).foldl putA (putA u (jG a))) = u;rw [Dt];exact Dq u l
theorem NC {l : List W3} {p : Nat} {x : W3} (h : p < l.length) : (l.set p x).getD p z3 = x := by
 rw [List.getD_eq_getElem?_getD, List.getElem?_set_self h];rfl
theorem set_off {l : List W3} {p r : Nat} {x : W3} (h : p ≠ r) : (l.set p x).getD r z3 = l.getD r z3 := by
 rw [List.getD_eq_getElem?_getD, List.getElem?_set_ne h, ← List.getD_eq_getElem?_getD]
def cu (lg : List Lg) (p : Nat) : Lg := lg.getD (p / 8) (0, [])
def uQ (lg : List Lg) (p : Nat) : Prop := ∃ e ∈ (cu lg p).2, e.1 = (p : Int)
def rh (lg : List Lg) (p : Nat) : Prop := ∃ e ∈ (cu lg p).2.take (cu lg p).1.toNat, e.1 = (p : Int)
section
variable (T C B : Int) (N : Nat) (ws R : List W3)
def yI (lg : List Lg) : Prop := ∀ (n : Nat) (e : Int × W3), e ∈ (lg.getD n (0, [])).2 → e.1 ∈ aY T C B
def ot (a : Int) : Int := aF T C B (aT (ws.getD a.toNat z3).f).1
def uM (a : Int) : Int := (ws.getD ((ot T C B ws a).toNat + 1) z3).v
def JY (c : RC) : Prop :=
 (c.part = 0 ∧ c.L = []) ∨
 (c.part = 1 ∧ ∃ a, c.F.map Prod.fst ++ c.L = [a] ∧ ((c.step = 0 ∧ ∃ P', c.P = a :: P') ∨ (c.step = 2 ∧ ∃ P', c.S = a :: P') ∨ (c.step = 3 ∧ ∃ P', c.H = a :: P'))) ∨
 (c.part = 2 ∧ c.step = 0 ∧ ∃ a P', c.P = a :: P' ∧ dB T C B (ws.getD a.toNat z3) = true ∧ c.F.map Prod.fst ++ c.L = [a, ot T C B ws a, ot T C B ws a + 1]) ∨
 (c.part = 3 ∧ c.step = 0 ∧ ∃ a P', c.P = a :: P' ∧ dB T C B (ws.getD a.toNat z3) = true ∧ (1 ≤ uM T C B ws a ∧ uM T C B ws a ≤ aD T C B (aT (ws.getD a.toNat z3).f).1) ∧ c.F.map Prod.fst ++ c.L = [a, ot T C B ws a, ot T C B ws a + 1] ++ iA (ot T C B ws a) (3 * (uM T C B ws a).toNat))
def UU (c : RC) (lg : List Lg) : Prop := c.step ≤ 1 ∧ yI T C B lg ∧ (∀ a ∈ aY T C B, a ∈ c.P ∨ ws.getD a.toNat z3 = R.getD a.toNat z3 ∨ (a ∈ c.D ∧ (uQ lg a.toNat ∨ ∃ x, stA a x ∈ c.A))) ∧ (c.A = [] ∨ ∃ a x, c.A = [stA a x] ∧ c.step = 0 ∧ c.part = 0 ∧ c.L = [] ∧ a ∈ aY T C B ∧ x = R.getD a.toNat z3)
def UR (c : RC) (lg : List Lg) (k : Int → Int) : Prop := c.step = 2 ∧ c.part = 0 ∧ c.L = [] ∧ yI T C B lg ∧ (∀ a ∈ aY T C B, ws.getD a.toNat z3 = R.getD a.toNat z3 ∨ (uQ lg a.toNat ∧ (jG a ∈ c.A ∨ k ((a.toNat / 8 : Nat) : Int) = (cu lg a.toNat).2.length))) ∧ ∃ l : List Int, c.A = l.map jG ++ [kJ] ∧ ∀ b ∈ l, 0 ≤ b ∧ b < (N : Int)
def UT (c : RC) (lg : List Lg) : Prop := 2 ≤ c.step ∧ (∀ a ∈ aY T C B, ws.getD a.toNat z3 = R.getD a.toNat z3 ∨ rh lg a.toNat) ∧ (c.A = [] ∨ (∃ a x, c.A = [stA a x] ∧ c.part = 0 ∧ c.L = [] ∧ 0 ≤ a ∧ a < (N : Int) ∧ x = R.getD a.toNat z3) ∨ (c.step = 5 ∧ c.part = 0 ∧ c.L = [] ∧ ∃ l : List Int, c.A = l.map jG ++ [kJ] ∧ ∀ b ∈ l, 0 ≤ b ∧ b < (N : Int)))
structure Inv (c : RC) (u : List W3) (lg : List Lg) (k : Int → Int) : Prop where
 st : 0 ≤ c.step ∧ c.step ≤ 5
 ld : c.ld = false
 ul : u.length = N
 lgl : lg.length = (N + 7) / 8
 iP : (∀ a ∈ c.P, a ∈ aY T C B) ∧ c.P.Nodup
 iS : (∀ a ∈ c.S, a ∈ au T C B) ∧ c.S.Nodup
 iH : (∀ a ∈ c.H, a ∈ bu T C B) ∧ c.H.Nodup
 full : c.step ≤ 1 → c.S = au T C B ∧ c.H = bu T C B
 eP : 1 ≤ c.step → c.P = []
 eS : 3 ≤ c.step → c.S = []
 eH : 4 ≤ c.step → c.H = []
 val : ∀ p, p < N → (c.rem p → (c.A.foldl putA u).getD p z3 = ws.getD p z3) ∧ (¬ c.rem p → (c.A.foldl putA u).getD p z3 = R.getD p z3)
 F : lq ws c.F
 ent : ∀ (n : Nat) (e : Int × W3), e ∈ (lg.getD n (0, [])).2 → 0 ≤ e.1 ∧ e.1 < (N : Int) ∧ e.1.toNat / 8 = n ∧ e.2 = R.getD e.1.toNat z3
 kept : ∀ g ∈ lg, 0 ≤ g.1 ∧ g.1 ≤ (g.2.length : Int)
 ask : ∀ z, 0 ≤ k z
 asks : ∀ n : Nat, k (n : Int) ≤ ((lg.getD n (0, [])).2.length : Int)
 Dk : ∀ d ∈ c.D, 0 ≤ d ∧ d < (N : Int)
 pt : JY T C B ws c
 mode : UU T C B ws R c lg ∨ UR T C B N ws R c lg k ∨ UT T C B N ws R c lg
end
section
variable {T C B : Int} {N : Nat} {ws R : List W3} {c : RC} {u : List W3} {lg : List Lg} {k : Int → Int}
theorem nc : ∀ {F : List (Int × W3)}, lq ws F → F = (F.map Prod.fst).map (fun l => (l, ws.getD l.toNat z3))
 | [], _ => rfl
 | q :: F, h => by
  have h1 := nc (F := F) (fun x hx => h x (List.mem_cons_of_mem _ hx));have h2 := (h q (List.mem_cons_self ..)).2;rw [List.map_cons, List.map_cons, ← h1, ← h2]
theorem Ic {n : Nat} {g : Lg} (h : lg[n]? = some g) : lg.getD n (0, []) = g := by
 rw [List.getD_eq_getElem?_getD, h];rfl
theorem Inv.drop (L : Lay T C B N ws R) (h : Inv T C B N ws R c u lg k) (hA : c.A = []) {c' : RC} (a : Int) (ha : 0 ≤ a ∧ a < (N : Int)) (hL : c'.L = []) (es : c'.step = c.step) (ep : c'.part = 0) (el : c'.ld = c.ld) (eF : c'.F = c.F)
  (iP : (∀ a ∈ c'.P, a ∈ aY T C B) ∧ c'.P.Nodup) (iS : (∀ a ∈ c'.S, a ∈ au T C B) ∧ c'.S.Nodup) (iH : (∀ a ∈ c'.H, a ∈ bu T C B) ∧ c'.H.Nodup)
  (full : c'.step ≤ 1 → c'.S = au T C B ∧ c'.H = bu T C B) (eP : 1 ≤ c'.step → c'.P = []) (eS : 3 ≤ c'.step → c'.S = []) (eH : 4 ≤ c'.step → c'.H = [])
  (Cv : ∀ p, p ≠ a.toNat → (c.rem p ↔ c'.rem p)) (hr : c.rem a.toNat) (hn : ¬ c'.rem a.toNat)
  (hst : (c'.A = [] ∧ c'.D = c.D ∧ ws.getD a.toNat z3 = R.getD a.toNat z3) ∨ (c'.A = [stA a (R.getD a.toNat z3)] ∧ c'.D = c.D ++ [a]))
  (hmode : (c.step = 0 ∧ a ∈ aY T C B ∧ ∀ b ∈ c.P, b = a ∨ b ∈ c'.P) ∨ 2 ≤ c.step) : Inv T C B N ws R c' u lg k := by
 have hv : ∀ p, p < N → u.getD p z3 = (c.A.foldl putA u).getD p z3 := fun p _ => by rw [hA]; rfl
 have haN : a.toNat < N := by omega
 have hval : ∀ p, p < N → (c'.rem p → (c'.A.foldl putA u).getD p z3 = ws.getD p z3) ∧ (¬ c'.rem p → (c'.A.foldl putA u).getD p z3 = R.getD p z3) := by
  intro p hp;have h0 := h.val p hp;rw [← hv p hp] at h0;by_cases e : p = a.toNat
  ·subst e;refine ⟨fun h => absurd h hn, fun _ => ?_⟩;rcases hst with ⟨e1, _, e3⟩ | ⟨e1, _⟩
   ·rw [e1];exact (h0.1 hr).trans e3
   ·rw [e1, List.foldl_cons, xK];exact NC (by rw [h.ul]; exact haN)
  ·have e4 : (c'.A.foldl putA u).getD p z3 = u.getD p z3 := by
    rcases hst with ⟨e1, _⟩ | ⟨e1, _⟩
    ·rw [e1];rfl
    ·rw [e1, List.foldl_cons, xK];exact set_off (fun h => e h.symm)
   rw [e4, ← Cv p e];exact h0
 refine ⟨by rw [es]; exact h.st, el.trans h.ld, h.ul, h.lgl, iP, iS, iH, full, eP, eS, eH, hval, by rw [eF]; exact h.F, h.ent, h.kept, h.ask, h.asks, ?_, .inl ⟨ep, hL⟩, ?_⟩
 ·intro d hd;rcases hst with ⟨_, e2, _⟩ | ⟨_, e2⟩
  ·rw [e2] at hd;exact h.Dk d hd
  ·rw [e2] at hd;rcases List.mem_append.1 hd with hd | hd
   ·exact h.Dk d hd
   ·rw [List.mem_singleton.1 hd];exact ha
 ·rcases h.mode with ⟨m1, m2, m3, m4⟩ | ⟨m1, m2, m3, m4, m5, l, m6, m7⟩ | ⟨m1, m2, m3⟩
  ·rcases hmode with ⟨s0, OW, hPP⟩ | s2
   ·left;refine ⟨by rw [es]; exact m1, m2, fun b hb => ?_, ?_⟩
    ·rcases m3 b hb with h1 | h1 | ⟨h1, h2⟩
     ·rcases hPP b h1 with rfl | h1
      ·rcases hst with ⟨_, _, e3⟩ | ⟨e1, e2⟩
       ·exact .inr (.inl e3)
       ·refine .inr (.inr ⟨by rw [e2]; simp, .inr ⟨_, by rw [e1]; exact List.mem_cons_self ..⟩⟩)
      ·exact .inl h1
     ·exact .inr (.inl h1)
     ·right; right;rcases h2 with h2 | ⟨x, h2⟩
      ·refine ⟨?_, .inl h2⟩;rcases hst with ⟨_, e2, _⟩ | ⟨_, e2⟩ <;> rw [e2]
       ·exact h1
       ·exact List.mem_append.2 (.inl h1)
      ·rw [hA] at h2;cases h2
    ·rcases hst with ⟨e1, _⟩ | ⟨e1, _⟩
     ·exact .inl e1
     ·exact .inr ⟨a, _, e1, by rw [es]; exact s0, ep, hL, OW, rfl⟩
   ·omega
  ·rw [hA] at m6;cases l <;> simp at m6
  ·right; right;refine ⟨by rw [es]; exact m1, m2, ?_⟩;rcases hst with ⟨e1, _⟩ | ⟨e1, _⟩
   ·exact .inl e1
   ·exact .inr (.inl ⟨a, _, e1, ep, hL, ha.1, ha.2, rfl⟩)
theorem Inv.loads (h : Inv T C B N ws R c u lg k) (hA : c.A = []) {c' : RC} (es : c'.step = c.step) (el : c'.ld = c.ld) (eP : c'.P = c.P) (eS : c'.S = c.S) (eH : c'.H = c.H) (eA : c'.A = c.A) (eD : c'.D = c.D) (hF : lq ws c'.F) (hp : JY T C B ws c') : Inv T C B N ws R c' u lg k := by
 have Cv : ∀ p, c'.rem p ↔ c.rem p := fun p => by unfold RC.rem; rw [eP, eS, eH]
 refine ⟨by rw [es]; exact h.st, el.trans h.ld, h.ul, h.lgl, by rw [eP]; exact h.iP, by rw [eS]; exact h.iS, by rw [eH]; exact h.iH, by rw [es, eS, eH]; exact h.full, by rw [es, eP]; exact h.eP, by rw [es, eS]; exact h.eS, by rw [es, eH]; exact h.eH, fun p hp => ?_, hF, h.ent, h.kept, h.ask, h.asks, by rw [eD]; exact h.Dk, hp, ?_⟩
 ·rw [Cv, eA];exact h.val p hp
 ·rcases h.mode with ⟨m1, m2, m3, m4⟩ | ⟨m1, m2, m3, m4, m5, l, m6, m7⟩ | ⟨m1, m2, m3⟩
  ·refine .inl ⟨by rw [es]; exact m1, m2, ?_, .inl (eA.trans hA)⟩;rw [eP, eD, eA];exact m3
  ·rw [hA] at m6;cases l <;> simp at m6
  ·exact .inr (.inr ⟨by rw [es]; exact m1, m2, .inl (eA.trans hA)⟩)
end
section
variable {T C B : Int} {N : Nat} {ws R : List W3} {c : RC} {u : List W3} {lg : List Lg} {k : Int → Int}
theorem nat_ne {p : Nat} {a : Int} (h0 : 0 ≤ a) (h : p ≠ a.toNat) : (p : Int) ≠ a := by omega
theorem fK {a : Int} (h0 : 0 ≤ a) : ((a.toNat : Nat) : Int) = a := by omega
theorem Rc (L : Lay T C B N ws R) (h : Inv T C B N ws R c u lg k) {a : Int} {P' : List Int} (hP : c.P = a :: P') {c' : RC} (eP : c'.P = P') (eS : c'.S = c.S) (eH : c'.H = c.H) : (∀ p, p ≠ a.toNat → (c.rem p ↔ c'.rem p)) ∧ c.rem a.toNat ∧ ¬ c'.rem a.toNat := by
 have ha : a ∈ aY T C B := h.iP.1 a (by rw [hP]; exact List.mem_cons_self ..);have h0 := (L.inP ha).1;have hd := h.iP.2;rw [hP] at hd;refine ⟨fun p hp => ?_, ?_, ?_⟩
 ·unfold RC.rem;rw [eP, eS, eH, hP, List.mem_cons];have := nat_ne h0 hp;simp [this]
 ·left;rw [fK h0, hP];exact List.mem_cons_self ..
 ·unfold RC.rem;rw [fK h0, eP, eS, eH];rintro (h1 | h1 | h1)
  ·exact (List.nodup_cons.1 hd).1 h1
  ·exact (L.notSP (h.iS.1 a h1)).1 ha
  ·exact L.notPH ha (h.iH.1 a h1)
theorem Rb (L : Lay T C B N ws R) (h : Inv T C B N ws R c u lg k) {a : Int} {P' : List Int} (hP : c.S = a :: P') {c' : RC} (eP : c'.P = c.P) (eS : c'.S = P') (eH : c'.H = c.H) : (∀ p, p ≠ a.toNat → (c.rem p ↔ c'.rem p)) ∧ c.rem a.toNat ∧ ¬ c'.rem a.toNat := by
 have ha : a ∈ au T C B := h.iS.1 a (by rw [hP]; exact List.mem_cons_self ..);have h0 := (L.inS ha).1;have hd := h.iS.2;rw [hP] at hd;refine ⟨fun p hp => ?_, ?_, ?_⟩
 ·unfold RC.rem;rw [eP, eS, eH, hP, List.mem_cons];have := nat_ne h0 hp;simp [this]
 ·right; left;rw [fK h0, hP];exact List.mem_cons_self ..
 ·unfold RC.rem;rw [fK h0, eP, eS, eH];rintro (h1 | h1 | h1)
  ·exact (L.notSP ha).1 (h.iP.1 a h1)
  ·exact (List.nodup_cons.1 hd).1 h1
  ·exact (L.notSP ha).2 (h.iH.1 a h1)
theorem Re (L : Lay T C B N ws R) (h : Inv T C B N ws R c u lg k) {a : Int} {P' : List Int} (hP : c.H = a :: P') {c' : RC} (eP : c'.P = c.P) (eS : c'.S = c.S) (eH : c'.H = P') : (∀ p, p ≠ a.toNat → (c.rem p ↔ c'.rem p)) ∧ c.rem a.toNat ∧ ¬ c'.rem a.toNat := by
 have ha : a ∈ bu T C B := h.iH.1 a (by rw [hP]; exact List.mem_cons_self ..);have h0 := (L.inH ha).1;have hd := h.iH.2;rw [hP] at hd;refine ⟨fun p hp => ?_, ?_, ?_⟩
 ·unfold RC.rem;rw [eP, eS, eH, hP, List.mem_cons];have := nat_ne h0 hp;simp [this]
 ·right; right;rw [fK h0, hP];exact List.mem_cons_self ..
 ·unfold RC.rem;rw [fK h0, eP, eS, eH];rintro (h1 | h1 | h1)
  ·exact L.notPH (h.iP.1 a h1) ha
  ·exact (L.notSP (h.iS.1 a h1)).2 ha
  ·exact (List.nodup_cons.1 hd).1 h1
theorem Inv.next (h : Inv T C B N ws R c u lg k) (hA : c.A = []) (hL : c.L = []) (p0 : c.part = 0) (h5 : c.step < 5) (hm : c.step = 0 ∨ 2 ≤ c.step) (hP : c.P = []) (hS : 2 ≤ c.step → c.S = []) (hH : 3 ≤ c.step → c.H = []) {c' : RC} (e : c' = { c with step := c.step + 1 }) : Inv T C B N ws R c' u lg k := by
 subst e;have st := h.st;refine ⟨⟨by show 0 ≤ c.step + 1; omega, by show c.step + 1 ≤ 5; omega⟩, h.ld, h.ul, h.lgl, h.iP, h.iS, h.iH, fun e => h.full (by have e' : c.step + 1 ≤ 1 := e; omega), fun _ => hP, fun e => hS (by have e' : 3 ≤ c.step + 1 := e; omega), fun e => hH (by have e' : 4 ≤ c.step + 1 := e; omega), h.val, h.F, h.ent, h.kept, h.ask, h.asks, h.Dk, .inl ⟨p0, hL⟩, ?_⟩;rcases h.mode with ⟨m1, m2, m3, m4⟩ | ⟨m1, m2, m3, m4, m5, l, m6, m7⟩ | ⟨m1, m2, m3⟩
 ·exact .inl ⟨by show c.step + 1 ≤ 1; omega, m2, m3, .inl hA⟩
 ·rw [hA] at m6;cases l <;> simp at m6
 ·exact .inr (.inr ⟨by show 2 ≤ c.step + 1; omega, m2, .inl hA⟩)
theorem CI (L : Lay T C B N ws R) (hF : lq ws c.F) {a : Int} (ha : a ∈ aY T C B) (hm : a ∈ c.F.map Prod.fst)
  (hc : dB T C B (ws.getD a.toNat z3) = false ∨ (dB T C B (ws.getD a.toNat z3) = true ∧ ot T C B ws a ∈ c.F.map Prod.fst ∧ ot T C B ws a + 1 ∈ c.F.map Prod.fst ∧ (¬ (1 ≤ uM T C B ws a ∧ uM T C B ws a ≤ aD T C B (aT (ws.getD a.toNat z3).f).1) ∨ ∀ j : Nat, j < 3 * (uM T C B ws a).toNat → ot T C B ws a + 2 + (j : Int) ∈ c.F.map Prod.fst))) : aj T C B (cK N c.F) a.toNat = R.getD a.toNat z3 := by
 have h0 := L.inP ha;rw [L.rP ha];exact yC L.v L.n hF oM (by rw [fK h0.1]; exact hm) (yy L.ok _).2.2.2.2.1 hc
theorem sP (L : Lay T C B N ws R) (h : Inv T C B N ws R c u lg k) (hA : c.A = []) (hL : c.L = []) (h0 : c.step = 0) : Inv T C B N ws R (stepped (bG T C B N c).1 (bG T C B N c).2) u lg k := by
 cases hP : c.P with
 | nil =>
  have e : bG T C B N c = (true, c) := by unfold bG; rw [hP]
  rw [e];have p0 : c.part = 0 := by
   rcases h.pt with ⟨p0, _⟩ | ⟨_, a, _, ⟨_, P', e⟩ | ⟨s, _⟩ | ⟨s, _⟩⟩ | ⟨_, _, a, P', e, _⟩ | ⟨_, _, a, P', e, _⟩
   ·exact p0
   ·rw [hP] at e; cases e
   ·omega
   ·omega
   ·rw [hP] at e; cases e
   ·rw [hP] at e; cases e
  exact h.next hA hL p0 oM (.inl h0) hP (fun h => by omega) (fun h => by omega) rfl
 | cons a P' =>
  have ha : a ∈ aY T C B := h.iP.1 a (by rw [hP]; exact List.mem_cons_self ..);have ha0 := L.inP ha;have hiP : (∀ b ∈ P', b ∈ aY T C B) ∧ P'.Nodup := ⟨fun b hb => h.iP.1 b (by rw [hP]; exact List.mem_cons_of_mem _ hb), by have := h.iP.2; rw [hP] at this; exact (List.nodup_cons.1 this).2⟩;have ae7 : ∀ b : Bool, b = false → ∀ r : RC, stepped b r = r := fun b e r => by rw [e]; rfl
  have hfin : (headW c.F) = ws.getD a.toNat z3 → ¬ c.part = 0 → ¬ (c.part = 1 ∧ dB T C B (dw c.F) = true) → ¬ (c.part = 2 ∧ 1 ≤ (dw c.F).v ∧ (dw c.F).v ≤ aD T C B (aT (headW c.F).f).1) → ((ws.getD a.toNat z3).f ≠ 0 → aj T C B (cK N c.F) a.toNat = R.getD a.toNat z3) → Inv T C B N ws R (stepped (bG T C B N c).1 (bG T C B N c).2) u lg k := by
   intro hh n0 n1 n2 iO;by_cases f0 : (ws.getD a.toNat z3).f = 0
   ·have e : bG T C B N c = (false, { c with P := P', part := 0 }) := by
     unfold bG;rw [hP];simp only;rw [if_neg n0, if_neg n1, if_neg n2, hh, if_pos f0]
    rw [e];obtain ⟨r1, r2, r3⟩ := Rc L h hP (c' := { c with P := P', part := 0 }) rfl rfl rfl;exact h.drop L hA a ⟨ha0.1, ha0.2.1⟩ hL rfl rfl rfl rfl hiP h.iS h.iH h.full (fun e => by have e' : 1 ≤ c.step := e; omega) h.eS h.eH r1 r2 r3 (.inl ⟨hA, rfl, by rw [L.rP ha, jZ _ _ _ _ _ f0]⟩) (.inl ⟨h0, ha, fun b hb => by rw [hP] at hb; exact List.mem_cons.1 hb⟩)
   ·have e : bG T C B N c = (false, { c with A := c.A ++ [stA a (aj T C B (cK N c.F) a.toNat)], D := c.D ++ [a], P := P', part := 0 }) := by
     unfold bG;rw [hP];simp only;rw [if_neg n0, if_neg n1, if_neg n2, hh, if_neg f0]
    rw [e, iO f0];obtain ⟨r1, r2, r3⟩ := Rc L h hP (c' := { c with A := c.A ++ [stA a (R.getD a.toNat z3)], D := c.D ++ [a], P := P', part := 0 }) rfl rfl rfl;exact h.drop L hA a ⟨ha0.1, ha0.2.1⟩ hL rfl rfl rfl rfl hiP h.iS h.iH h.full (fun e => by have e' : 1 ≤ c.step := e; omega) h.eS h.eH r1 r2 r3 (.inr ⟨by show c.A ++ _ = _; rw [hA]; rfl, rfl⟩) (.inl ⟨h0, ha, fun b hb => by rw [hP] at hb; exact List.mem_cons.1 hb⟩)
  have DG := nc h.F;rcases h.pt with ⟨p0, _⟩ | ⟨p1, a', ef, ⟨_, P2, e⟩ | ⟨s, _⟩ | ⟨s, _⟩⟩ | ⟨p2, _, a', P2, e, ew, ef⟩ | ⟨p3, _, a', P2, e, ew, ec, ef⟩
  ·have e : bG T C B N c = (false, { c with F := [], L := [a], part := 1 }) := by
    unfold bG;rw [hP];simp only;rw [if_pos p0]
   rw [e];exact h.loads hA (c' := { c with F := [], L := [a], part := 1 }) rfl rfl rfl rfl rfl rfl rfl (fun q hq => nomatch hq) (.inr (.inl ⟨rfl, a, rfl, .inl ⟨h0, P', hP⟩⟩))
  ·rw [hP] at e;injection e with e1 e2
   subst e1;rw [hL, List.append_nil] at ef;rw [ef] at DG;have hlast : dw c.F = ws.getD a.toNat z3 := by rw [DG]; rfl
   have hhead : headW c.F = ws.getD a.toNat z3 := by rw [DG]; rfl
   cases hw : dB T C B (ws.getD a.toNat z3) with
   | true =>
    have e : bG T C B N c = (false, { c with L := [ot T C B ws a, ot T C B ws a + 1], part := 2 }) := by
     unfold bG;rw [hP];simp only;rw [if_neg oM, hlast, if_pos ⟨p1, hw⟩];rfl
    rw [e];exact h.loads hA (c' := { c with L := [ot T C B ws a, ot T C B ws a + 1], part := 2 }) rfl rfl rfl rfl rfl rfl rfl h.F (.inr (.inr (.inl ⟨rfl, h0, a, P', hP, hw, by show c.F.map Prod.fst ++ _ = _; rw [ef]; rfl⟩)))
   | false =>
    refine hfin hhead oM (fun e => by rw [hlast, hw] at e; exact absurd e.2 dM) (fun e => by omega) (fun _ => CI L h.F ha (by rw [ef]; exact List.mem_cons_self ..) (.inl hw))
  ·omega
  ·omega
  ·rw [hP] at e;injection e with e1 e2
   subst e1;rw [hL, List.append_nil] at ef;rw [ef] at DG;obtain ⟨w1, w2, w3, w4⟩ := iv L.v L.n ew;have E9 : 0 ≤ ot T C B ws a := w1;have aaW : (ot T C B ws a + 1).toNat = (ot T C B ws a).toNat + 1 := by omega
   have hlast : dw c.F = ws.getD ((ot T C B ws a).toNat + 1) z3 := by rw [DG, ← aaW]; rfl
   have hhead : headW c.F = ws.getD a.toNat z3 := by rw [DG]; rfl
   have hcnt : (dw c.F).v = uM T C B ws a := by rw [hlast]; rfl
   by_cases hg : 1 ≤ uM T C B ws a ∧ uM T C B ws a ≤ aD T C B (aT (ws.getD a.toNat z3).f).1
   ·have e : bG T C B N c = (false, { c with L := iA (ot T C B ws a) (3 * (uM T C B ws a).toNat), part := 3 }) := by
     unfold bG;rw [hP];simp only;rw [if_neg oM, if_neg (fun e => by omega), hhead, hcnt, if_pos ⟨p2, hg.1, hg.2⟩];rfl
    rw [e];exact h.loads hA (c' := { c with L := iA (ot T C B ws a) (3 * (uM T C B ws a).toNat), part := 3 }) rfl rfl rfl rfl rfl rfl rfl h.F (.inr (.inr (.inr ⟨rfl, h0, a, P', hP, ew, hg, by show c.F.map Prod.fst ++ _ = _; rw [ef]⟩)))
   ·refine hfin hhead oM (fun e => by omega) (fun e => by rw [hcnt, hhead] at e; exact hg e.2) (fun _ => CI L h.F ha (by rw [ef]; exact List.mem_cons_self ..) (.inr ⟨ew, by rw [ef]; simp, by rw [ef]; simp, .inl hg⟩))
  ·rw [hP] at e;injection e with e1 e2
   subst e1;rw [hL, List.append_nil] at ef;rw [ef] at DG;have hhead : headW c.F = ws.getD a.toNat z3 := by rw [DG]; rfl
   refine hfin hhead oM (fun e => by omega) (fun e => by omega) (fun _ => CI L h.F ha (by rw [ef]; simp) (.inr ⟨ew, by rw [ef]; simp, by rw [ef]; simp, .inr (fun j hj => ?_)⟩));rw [ef];refine List.mem_append.2 (.inr ?_);unfold iA;exact List.mem_map.2 ⟨j, List.mem_range.2 hj, rfl⟩
theorem Inv.b_of (h : Inv T C B N ws R c u lg k) (hA : c.A = []) (h2 : 2 ≤ c.step) : ∀ a ∈ aY T C B, ws.getD a.toNat z3 = R.getD a.toNat z3 ∨ rh lg a.toNat := by
 rcases h.mode with ⟨m1, m2, m3, m4⟩ | ⟨m1, m2, m3, m4, m5, l, m6, m7⟩ | ⟨m1, m2, m3⟩
 ·omega
 ·rw [hA] at m6;cases l <;> simp at m6
 ·exact m2
theorem rM (L : Lay T C B N ws R) (h : Inv T C B N ws R c u lg k) (hA : c.A = []) (hL : c.L = []) (h0 : c.step = 2) : Inv T C B N ws R (stepped (cm c).1 (cm c).2) u lg k := by
 have LP := h.eP oM;cases hP : c.S with
 | nil =>
  have e : cm c = (true, c) := by unfold cm; rw [hP]
  rw [e];have p0 : c.part = 0 := by
   rcases h.pt with ⟨p0, _⟩ | ⟨_, a, _, ⟨s, _⟩ | ⟨_, P', e⟩ | ⟨s, _⟩⟩ | ⟨_, s, _⟩ | ⟨_, s, _⟩
   ·exact p0
   ·omega
   ·rw [hP] at e; cases e
   ·omega
   ·omega
   ·omega
  exact h.next hA hL p0 oM (.inr oM) LP (fun _ => hP) (fun h => by omega) rfl
 | cons a P' =>
  have ha : a ∈ au T C B := h.iS.1 a (by rw [hP]; exact List.mem_cons_self ..);have ha0 := L.inS ha;have hiS : (∀ b ∈ P', b ∈ au T C B) ∧ P'.Nodup := ⟨fun b hb => h.iS.1 b (by rw [hP]; exact List.mem_cons_of_mem _ hb), by have := h.iS.2; rw [hP] at this; exact (List.nodup_cons.1 this).2⟩;have DG := nc h.F;rcases h.pt with ⟨p0, _⟩ | ⟨p1, a', ef, ⟨s, _⟩ | ⟨_, P2, e⟩ | ⟨s, _⟩⟩ | ⟨_, s, _⟩ | ⟨_, s, _⟩
  ·have e : cm c = (false, { c with F := [], L := [a], part := 1 }) := by
    unfold cm;rw [hP];simp only;rw [if_pos p0]
   rw [e];exact h.loads hA (c' := { c with F := [], L := [a], part := 1 }) rfl rfl rfl rfl rfl rfl rfl (fun q hq => nomatch hq) (.inr (.inl ⟨rfl, a, rfl, .inr (.inl ⟨h0, P', hP⟩)⟩))
  ·omega
  ·rw [hP] at e;injection e with e1 e2
   subst e1;rw [hL, List.append_nil] at ef;rw [ef] at DG;have hlast : dw c.F = ws.getD a.toNat z3 := by rw [DG]; rfl
   cases hu : bD (ws.getD a.toNat z3) with
   | true =>
    have e : cm c = (false, { c with A := c.A ++ [stA a (ei (ws.getD a.toNat z3))], D := c.D ++ [a], S := P', part := 0 }) := by
     unfold cm;rw [hP];simp only;rw [if_neg oM, hlast, if_pos hu]
    have hR : R.getD a.toNat z3 = ei (ws.getD a.toNat z3) := (by rw [L.rS ha, if_pos hu]);rw [e, ← hR];obtain ⟨r1, r2, r3⟩ := Rb L h hP (c' := { c with A := c.A ++ [stA a (R.getD a.toNat z3)], D := c.D ++ [a], S := P', part := 0 }) rfl rfl rfl;exact h.drop L hA a ha0 hL rfl rfl rfl rfl h.iP hiS h.iH (fun e => by have e' : c.step ≤ 1 := e; omega) h.eP (fun e => by have e' : 3 ≤ c.step := e; omega) h.eH r1 r2 r3 (.inr ⟨by show c.A ++ _ = _; rw [hA]; rfl, rfl⟩) (.inr oM)
   | false =>
    have e : cm c = (false, { c with S := P', part := 0 }) := by
     unfold cm;rw [hP];simp only;rw [if_neg oM, hlast, if_neg (by rw [hu]; decide)]
    have hR : R.getD a.toNat z3 = ws.getD a.toNat z3 := (by rw [L.rS ha, if_neg (by rw [hu]; decide)]);rw [e];obtain ⟨r1, r2, r3⟩ := Rb L h hP (c' := { c with S := P', part := 0 }) rfl rfl rfl;exact h.drop L hA a ha0 hL rfl rfl rfl rfl h.iP hiS h.iH (fun e => by have e' : c.step ≤ 1 := e; omega) h.eP (fun e => by have e' : 3 ≤ c.step := e; omega) h.eH r1 r2 r3 (.inl ⟨hA, rfl, hR.symm⟩) (.inr oM)
  ·omega
  ·omega
  ·omega
theorem sO (L : Lay T C B N ws R) (h : Inv T C B N ws R c u lg k) (hA : c.A = []) (hL : c.L = []) (h0 : c.step = 3) : Inv T C B N ws R (stepped (dE c).1 (dE c).2) u lg k := by
 have LP := h.eP oM;have hS0 := h.eS oM;cases hP : c.H with
 | nil =>
  have e : dE c = (true, c) := by unfold dE; rw [hP]
  rw [e];have p0 : c.part = 0 := by
   rcases h.pt with ⟨p0, _⟩ | ⟨_, a, _, ⟨s, _⟩ | ⟨s, _⟩ | ⟨_, P', e⟩⟩ | ⟨_, s, _⟩ | ⟨_, s, _⟩
   ·exact p0
   ·omega
   ·omega
   ·rw [hP] at e; cases e
   ·omega
   ·omega
  exact h.next hA hL p0 oM (.inr oM) LP (fun _ => hS0) (fun _ => hP) rfl
 | cons a P' =>
  have ha : a ∈ bu T C B := h.iH.1 a (by rw [hP]; exact List.mem_cons_self ..);have ha0 := L.inH ha;have hR := L.rH ha;have hiH : (∀ b ∈ P', b ∈ bu T C B) ∧ P'.Nodup := ⟨fun b hb => h.iH.1 b (by rw [hP]; exact List.mem_cons_of_mem _ hb), by have := h.iH.2; rw [hP] at this; exact (List.nodup_cons.1 this).2⟩;have DG := nc h.F;rcases h.pt with ⟨p0, _⟩ | ⟨p1, a', ef, ⟨s, _⟩ | ⟨s, _⟩ | ⟨_, P2, e⟩⟩ | ⟨_, s, _⟩ | ⟨_, s, _⟩
  ·have e : dE c = (false, { c with F := [], L := [a], part := 1 }) := by
    unfold dE;rw [hP];simp only;rw [if_pos p0]
   rw [e];exact h.loads hA (c' := { c with F := [], L := [a], part := 1 }) rfl rfl rfl rfl rfl rfl rfl (fun q hq => nomatch hq) (.inr (.inl ⟨rfl, a, rfl, .inr (.inr ⟨h0, P', hP⟩)⟩))
  ·omega
  ·omega
  ·rw [hP] at e;injection e with e1 e2
   subst e1;rw [hL, List.append_nil] at ef;rw [ef] at DG;have hlast : dw c.F = ws.getD a.toNat z3 := by rw [DG]; rfl
   cases hu : (!ql (ws.getD a.toNat z3) z3) with
   | true =>
    have e : dE c = (false, { c with A := c.A ++ [stA a z3], D := c.D ++ [a], H := P', part := 0 }) := by
     unfold dE;rw [hP];simp only;rw [if_neg oM, hlast, if_pos hu]
    rw [e, ← hR];obtain ⟨r1, r2, r3⟩ := Re L h hP (c' := { c with A := c.A ++ [stA a (R.getD a.toNat z3)], D := c.D ++ [a], H := P', part := 0 }) rfl rfl rfl;exact h.drop L hA a ha0 hL rfl rfl rfl rfl h.iP h.iS hiH (fun e => by have e' : c.step ≤ 1 := e; omega) h.eP h.eS (fun e => by have e' : 4 ≤ c.step := e; omega) r1 r2 r3 (.inr ⟨by show c.A ++ _ = _; rw [hA]; rfl, rfl⟩) (.inr oM)
   | false =>
    have e : dE c = (false, { c with H := P', part := 0 }) := by
     unfold dE;rw [hP];simp only;rw [if_neg oM, hlast, if_neg (by rw [hu]; decide)]
    have hz : ws.getD a.toNat z3 = z3 := (DT _ _).1 (by simpa using hu);rw [e];obtain ⟨r1, r2, r3⟩ := Re L h hP (c' := { c with H := P', part := 0 }) rfl rfl rfl;exact h.drop L hA a ha0 hL rfl rfl rfl rfl h.iP h.iS hiH (fun e => by have e' : c.step ≤ 1 := e; omega) h.eP h.eS (fun e => by have e' : 4 ≤ c.step := e; omega) r1 r2 r3 (.inl ⟨hA, rfl, by rw [hR, hz]⟩) (.inr oM)
  ·omega
  ·omega
theorem vn (h : Inv T C B N ws R c u lg k) (hA : c.A = []) (hL : c.L = []) (h0 : c.step = 1 ∨ c.step = 4) : Inv T C B N ws R (stepped (jD c).1 (jD c).2) u lg k := by
 have LP := h.eP oM;have p0 : c.part = 0 := by
  rcases h.pt with ⟨p0, _⟩ | ⟨_, a, _, ⟨s, _⟩ | ⟨s, _⟩ | ⟨s, _⟩⟩ | ⟨_, s, _⟩ | ⟨_, s, _⟩
  ·exact p0
  all_goals omega
 have st := h.st;have e : stepped (jD c).1 (jD c).2 = { c with A := gZ c.D, D := [], step := c.step + 1 } := by
  unfold stepped jD;rw [hA];rfl
 rw [e];have hk : gZ c.D = [] ∧ c.D = [] ∨ gZ c.D = c.D.map jG ++ [kJ] := by
  unfold gZ;by_cases hD : c.D = []
  ·left;rw [hD];exact ⟨rfl, rfl⟩
  ·right;rw [if_neg hD]
 have hv : ∀ p, p < N → (c.rem p → ((gZ c.D).foldl putA u).getD p z3 = ws.getD p z3) ∧ (¬ c.rem p → ((gZ c.D).foldl putA u).getD p z3 = R.getD p z3) := by
  intro p hp;have h1 := h.val p hp;rw [hA] at h1;rcases hk with ⟨e, _⟩ | e
  ·rw [e];exact h1
  ·rw [e, Dq];exact h1
 refine ⟨⟨by show 0 ≤ c.step + 1; omega, by show c.step + 1 ≤ 5; omega⟩, h.ld, h.ul, h.lgl, h.iP, h.iS, h.iH, fun e => by have e' : c.step + 1 ≤ 1 := e; omega, fun _ => LP, fun e => h.eS (by have e' : 3 ≤ c.step + 1 := e; omega), fun e => h.eH (by have e' : 4 ≤ c.step + 1 := e; omega), hv, h.F, h.ent, h.kept, h.ask, h.asks, fun d hd => (by cases hd), .inl ⟨p0, hL⟩, ?_⟩;rcases h0 with h0 | h0
 ·rcases h.mode with ⟨m1, m2, m3, m4⟩ | ⟨m1, _⟩ | ⟨m1, _⟩
  ·rcases hk with ⟨e, hD⟩ | e
   ·refine .inr (.inr ⟨by show 2 ≤ c.step + 1; omega, fun a ha => ?_, .inl e⟩);rcases m3 a ha with h1 | h1 | ⟨h1, _⟩
    ·rw [LP] at h1; cases h1
    ·exact .inl h1
    ·rw [hD] at h1; cases h1
   ·refine .inr (.inl ⟨by show c.step + 1 = 2; omega, p0, hL, m2, fun a ha => ?_, c.D, e, h.Dk⟩);rcases m3 a ha with h1 | h1 | ⟨h1, h2 | ⟨x, h2⟩⟩
    ·rw [LP] at h1; cases h1
    ·exact .inl h1
    ·refine .inr ⟨h2, .inl ?_⟩;show jG a ∈ gZ c.D;rw [e];exact List.mem_append.2 (.inl (List.mem_map.2 ⟨a, h1, rfl⟩))
    ·rw [hA] at h2; cases h2
  ·omega
  ·omega
 ·refine .inr (.inr ⟨by show 2 ≤ c.step + 1; omega, h.b_of hA oM, ?_⟩);rcases hk with ⟨e, _⟩ | e
  ·exact .inl e
  ·exact .inr (.inr ⟨by show c.step + 1 = 5; omega, p0, hL, c.D, e, h.Dk⟩)
theorem Gs (L : Lay T C B N ws R) (h : Inv T C B N ws R c u lg k) (hA : c.A = []) (hL : c.L = []) (h5 : c.step < 5) : Inv T C B N ws R (stepped (bH T C B N c).1 (bH T C B N c).2) u lg k := by
 have st := h.st;unfold bH;by_cases h0 : c.step = 0
 ·rw [if_pos h0];exact sP L h hA hL h0
 rw [if_neg h0];by_cases h2 : c.step = 2
 ·rw [if_pos h2];exact rM L h hA hL h2
 rw [if_neg h2];by_cases h3 : c.step = 3
 ·rw [if_pos h3];exact sO L h hA hL h3
 rw [if_neg h3];exact vn h hA hL oM
end
section
variable {T C B : Int} {N : Nat} {ws R : List W3} {c : RC} {u : List W3} {lg : List Lg} {k : Int → Int}
theorem Fv {α : Type} (l : List α) (i n : Nat) (x d : α) (h : i < l.length) : (l.set i x).getD n d = if n = i then x else l.getD n d := by
 rw [List.getD_eq_getElem?_getD];by_cases e : n = i
 ·subst e;rw [if_pos rfl, List.getElem?_set_self h];rfl
 ·rw [if_neg e, List.getElem?_set_ne (Ne.symm e), ← List.getD_eq_getElem?_getD]
theorem Ij (L : Lay T C B N ws R) (h : Inv T C B N ws R c u lg k) (hA : c.A = []) {l : Int} {L' : List Int} (hL : c.L = l :: L') : (0 ≤ l ∧ l < (N : Int)) ∧ u.getD l.toNat z3 = ws.getD l.toNat z3 ∧ Inv T C B N ws R { c with F := c.F ++ [(l, ws.getD l.toNat z3)], L := L' } u lg k := by
 have hv : ∀ p, p < N → (c.rem p → u.getD p z3 = ws.getD p z3) ∧ (¬ c.rem p → u.getD p z3 = R.getD p z3) := by
  intro p hp;have := h.val p hp;rwa [hA] at this
 have hlm : l ∈ c.F.map Prod.fst ++ c.L := by rw [hL]; simp
 have hfl : (c.F ++ [(l, ws.getD l.toNat z3)]).map Prod.fst ++ L' = c.F.map Prod.fst ++ c.L := by rw [hL]; simp
 have Tx : c.step = 0 → ah T C B 4 ≤ l → 0 ≤ l → l < (N : Int) → u.getD l.toNat z3 = ws.getD l.toNat z3 := by
  intro s0 h4 l0 lN;have hp : l.toNat < N := by omega
  rcases Classical.em (c.rem l.toNat) with hr | hr
  ·exact (hv _ hp).1 hr
  ·rw [(hv _ hp).2 hr];obtain ⟨f1, f2⟩ := h.full oM;unfold RC.rem at hr;rw [fK l0, f1, f2] at hr;refine L.out hp ?_ ?_ ?_
   ·cases e : kj (aY T C B) l.toNat with
    | false => rfl
    | true =>
     have := L.inP (L.iP.1 e);omega
   ·cases e : kj (au T C B) l.toNat with
    | false => rfl
    | true =>
     have := L.iS.1 e;rw [fK l0] at this;exact absurd (.inr (.inl this)) hr
   ·cases e : kj (bu T C B) l.toNat with
    | false => rfl
    | true =>
     have := L.iH.1 e;rw [fK l0] at this;exact absurd (.inr (.inr this)) hr
 have hpl : ∀ a, dB T C B (ws.getD a.toNat z3) = true → 0 ≤ ot T C B ws a ∧ ot T C B ws a + 2 + 3 * aD T C B (aT (ws.getD a.toNat z3).f).1 ≤ (N : Int) ∧ ah T C B 4 ≤ ot T C B ws a := by
  intro a ew;obtain ⟨w1, w2, w3, w4⟩ := iv L.v L.n ew;obtain ⟨p, hp⟩ : ∃ p : Nat, ot T C B ws a = (p : Int) := ⟨(ot T C B ws a).toNat, by have : 0 ≤ ot T C B ws a := w1; omega⟩;have h4 := zB L.v (who := (aT (ws.getD a.toNat z3).f).1) oM hp;rw [← hp] at h4;exact ⟨w1, w2, h4⟩
 have Cv : ∀ a, 0 ≤ a → a < (N : Int) → (a ∈ c.P ∨ a ∈ c.S ∨ a ∈ c.H) → u.getD a.toNat z3 = ws.getD a.toNat z3 := fun a a0 aN hm => (hv a.toNat oM).1 (by unfold RC.rem; rw [fK a0]; exact hm);have hF : lq ws (c.F ++ [(l, ws.getD l.toNat z3)]) → True := fun _ => trivial;have hgo : (0 ≤ l ∧ l < (N : Int)) → u.getD l.toNat z3 = ws.getD l.toNat z3 → JY T C B ws { c with F := c.F ++ [(l, ws.getD l.toNat z3)], L := L' } → (0 ≤ l ∧ l < (N : Int)) ∧ u.getD l.toNat z3 = ws.getD l.toNat z3 ∧ Inv T C B N ws R { c with F := c.F ++ [(l, ws.getD l.toNat z3)], L := L' } u lg k := by
  intro h1 h2 h3;refine ⟨h1, h2, h.loads hA rfl rfl rfl rfl rfl rfl rfl (fun q hq => ?_) h3⟩;rcases List.mem_append.1 hq with hq | hq
  ·exact h.F q hq
  ·obtain rfl := List.mem_singleton.1 hq;exact ⟨h1.1, rfl⟩
 rcases h.pt with ⟨_, e⟩ | ⟨p1, a, ef, hs⟩ | ⟨p2, s0, a, P2, e, ew, ef⟩ | ⟨p3, s0, a, P2, e, ew, ec, ef⟩
 ·rw [hL] at e;cases e
 ·have hla : l = a := by
   rw [ef] at hlm;exact List.mem_singleton.1 hlm
  subst hla;have hin : (0 ≤ l ∧ l < (N : Int)) ∧ (l ∈ c.P ∨ l ∈ c.S ∨ l ∈ c.H) := by
   rcases hs with ⟨_, P', e⟩ | ⟨_, P', e⟩ | ⟨_, P', e⟩
   ·have hm : l ∈ c.P := (by rw [e]; exact List.mem_cons_self ..);have := L.inP (h.iP.1 l hm);exact ⟨⟨this.1, this.2.1⟩, .inl hm⟩
   ·have hm : l ∈ c.S := (by rw [e]; exact List.mem_cons_self ..);exact ⟨L.inS (h.iS.1 l hm), .inr (.inl hm)⟩
   ·have hm : l ∈ c.H := (by rw [e]; exact List.mem_cons_self ..);exact ⟨L.inH (h.iH.1 l hm), .inr (.inr hm)⟩
  exact hgo hin.1 (Cv l hin.1.1 hin.1.2 hin.2) (.inr (.inl ⟨p1, l, hfl.trans ef, hs⟩))
 ·have OW : a ∈ c.P := by rw [e]; exact List.mem_cons_self ..
  have ha0 := L.inP (h.iP.1 a OW);obtain ⟨w1, w2, w3⟩ := hpl a ew;obtain ⟨-, -, w5, -⟩ := iv L.v L.n ew;rw [ef] at hlm;have hl2 : l = a ∨ l = ot T C B ws a ∨ l = ot T C B ws a + 1 := by simpa using hlm
  have h1 : 0 ≤ l ∧ l < (N : Int) := by omega
  refine hgo h1 ?_ (.inr (.inr (.inl ⟨p2, s0, a, P2, e, ew, hfl.trans ef⟩)));rcases hl2 with rfl | hl2
  ·exact Cv l h1.1 h1.2 (.inl OW)
  ·exact Tx s0 oM h1.1 h1.2
 ·have OW : a ∈ c.P := by rw [e]; exact List.mem_cons_self ..
  have ha0 := L.inP (h.iP.1 a OW);obtain ⟨w1, w2, w3⟩ := hpl a ew;obtain ⟨-, -, w5, -⟩ := iv L.v L.n ew;rw [ef] at hlm;have hl2 : l = a ∨ (ot T C B ws a ≤ l ∧ l < ot T C B ws a + 2 + 3 * aD T C B (aT (ws.getD a.toNat z3).f).1) := by
   rcases List.mem_append.1 hlm with hm | hm
   ·have : l = a ∨ l = ot T C B ws a ∨ l = ot T C B ws a + 1 := (by simpa using hm);omega
   ·unfold iA at hm;obtain ⟨j, hj, rfl⟩ := List.mem_map.1 hm;rw [List.mem_range] at hj;right;omega
  have h1 : 0 ≤ l ∧ l < (N : Int) := by omega
  refine hgo h1 ?_ (.inr (.inr (.inr ⟨p3, s0, a, P2, e, ew, ec, hfl.trans ef⟩)));rcases hl2 with rfl | hl2
  ·exact Cv l h1.1 h1.2 (.inl OW)
  ·exact Tx s0 oM h1.1 h1.2
theorem I0 (L : Lay T C B N ws R) (h : Inv T C B N ws R c u lg k) {a : AS} {A' : List AS} (hA : c.A = a :: A') : (∃ b, a = stA b (R.getD b.toNat z3) ∧ A' = [] ∧ 0 ≤ b ∧ b < (N : Int)) ∨ (∃ (b : Int) (l : List Int), a = jG b ∧ (0 ≤ b ∧ b < (N : Int)) ∧ A' = l.map jG ++ [kJ] ∧ ∀ x ∈ l, 0 ≤ x ∧ x < (N : Int)) ∨ (a = kJ ∧ A' = []) := by
 have hl : ∀ l : List Int, c.A = l.map jG ++ [kJ] → (∀ b ∈ l, 0 ≤ b ∧ b < (N : Int)) → (∃ (b : Int) (l : List Int), a = jG b ∧ (0 ≤ b ∧ b < (N : Int)) ∧ A' = l.map jG ++ [kJ] ∧ ∀ x ∈ l, 0 ≤ x ∧ x < (N : Int)) ∨ (a = kJ ∧ A' = []) := by
  intro l e hb;rw [hA] at e;cases l with
  | nil =>
   injection e with e1 e2
   exact .inr ⟨e1, e2⟩
  | cons b l =>
   injection e with e1 e2
   exact .inl ⟨b, l, e1, hb b (List.mem_cons_self ..), e2, fun x hx => hb x (List.mem_cons_of_mem _ hx)⟩
 rcases h.mode with ⟨m1, m2, m3, m4 | ⟨b, x, e, _, _, _, hb, hx⟩⟩ | ⟨m1, m2, m3, m4, m5, l, m6, m7⟩ | ⟨m1, m2, m3 | ⟨b, x, e, _, _, h0, hN, hx⟩ | ⟨_, _, _, l, e, hb⟩⟩
 ·rw [hA] at m4; cases m4
 ·rw [hA] at e;injection e with e1 e2
  have := L.inP hb;exact .inl ⟨b, by rw [e1, hx], e2, this.1, this.2.1⟩
 ·exact .inr (hl l m6 m7)
 ·rw [hA] at m3; cases m3
 ·rw [hA] at e;injection e with e1 e2
  exact .inl ⟨b, by rw [e1, hx], e2, h0, hN⟩
 ·exact .inr (hl l e hb)
theorem Dh {a b : Int} {x y : W3} (h : stA a x = stA b y) : a = b := by
 unfold stA at h;injection h
theorem Uz (l : List Int) {a : Int} {x : W3} : ¬ stA a x ∈ l.map jG ++ [kJ] := by
 intro h;rcases List.mem_append.1 h with h | h
 ·obtain ⟨b, _, e⟩ := List.mem_map.1 h;unfold stA jG at e;injection e with e _
  exact absurd e dM
 ·have e := List.mem_singleton.1 h;unfold stA kJ at e;injection e with e _
  exact absurd e dM
theorem Q4 {a b : Int} {x : W3} {l : List Int} (h : [stA a x] = l.map jG ++ [kJ]) : False := Uz l (h ▸ List.mem_singleton.2 rfl : stA a x ∈ l.map jG ++ [kJ])
theorem EW (L : Lay T C B N ws R) (h : Inv T C B N ws R c u lg k) {b : Int} (hA : c.A = [stA b (R.getD b.toNat z3)]) (hb : 0 ≤ b ∧ b < (N : Int)) : Inv T C B N ws R { c with A := [] } (u.set b.toNat (R.getD b.toNat z3)) (lg.set (b.toNat / 8) ((cu lg b.toNat).1, (cu lg b.toNat).2 ++ [(b, R.getD b.toNat z3)])) k := by
 have i6 := h.lgl;have hn : b.toNat / 8 < lg.length := by rw [i6]; omega
 obtain ⟨V5, LC⟩ : ∃ x, x = lg.set (b.toNat / 8) ((cu lg b.toNat).1, (cu lg b.toNat).2 ++ [(b, R.getD b.toNat z3)]) := ⟨_, rfl⟩;rw [← LC];have hat : ∀ n, V5.getD n (0, []) = if n = b.toNat / 8 then ((cu lg b.toNat).1, (cu lg b.toNat).2 ++ [(b, R.getD b.toNat z3)]) else lg.getD n (0, []) := fun n => by rw [LC]; exact Fv _ _ _ _ _ hn
 have Tf : cu lg b.toNat ∈ lg := by
  unfold cu;rw [List.getD_eq_getElem?_getD, List.getElem?_eq_getElem hn];exact List.getElem_mem hn
 have hkb := h.kept _ Tf
 -- what is logged stays logged
 have Ti : ∀ p, uQ lg p → uQ V5 p := by
  rintro p ⟨e, he, e1⟩;refine ⟨e, ?_, e1⟩;unfold cu at he;unfold cu;rw [hat];split
  ·rename_i hp;rw [hp] at he;exact List.mem_append.2 (.inl he)
  ·exact he
 have IQ : ∀ p, rh lg p → rh V5 p := by
  rintro p ⟨e, he, e1⟩;refine ⟨e, ?_, e1⟩;unfold cu at he;unfold cu;rw [hat];split
  ·rename_i hp;rw [hp] at he;show e ∈ ((cu lg b.toNat).2 ++ _).take (cu lg b.toNat).1.toNat;rw [List.take_append_of_le_length oM];exact he
  ·exact he
 have hnew : uQ V5 b.toNat := by
  refine ⟨(b, R.getD b.toNat z3), ?_, by show b = _; omega⟩;unfold cu;rw [hat, if_pos rfl];exact List.mem_append.2 (.inr (List.mem_singleton.2 rfl))
 refine ⟨h.st, h.ld, by rw [List.length_set]; exact h.ul, by rw [LC, List.length_set]; exact h.lgl, h.iP, h.iS, h.iH, h.full, h.eP, h.eS, h.eH, fun p hp => ?_, h.F, fun n e he => ?_, fun g hg => ?_, h.ask, fun n => ?_, h.Dk, ?_, ?_⟩
 ·have := h.val p hp;rw [hA, List.foldl_cons, xK] at this;exact this
 ·rw [hat] at he;split at he
  ·rename_i hnb;rcases List.mem_append.1 he with he | he
   ·rw [hnb];exact h.ent _ e he
   ·obtain rfl := List.mem_singleton.1 he;exact ⟨hb.1, hb.2, hnb.symm, rfl⟩
  ·exact h.ent n e he
 ·rw [LC] at hg;rcases List.mem_or_eq_of_mem_set hg with hg | hg
  ·exact h.kept g hg
  ·rw [hg];refine ⟨hkb.1, ?_⟩;show (cu lg b.toNat).1 ≤ (((cu lg b.toNat).2 ++ _).length : Int);rw [List.length_append];have := hkb.2;omega
 ·have := h.asks n;rw [hat];split
  ·rename_i hnb;show k (n : Int) ≤ (((cu lg b.toNat).2 ++ _).length : Int);rw [List.length_append];rw [hnb] at this ⊢;unfold cu;omega
  ·exact this
 ·rcases h.mode with ⟨m1, m2, m3, m4 | ⟨b, x, e, _, p0, hL, hb, hx⟩⟩ | ⟨m1, m2, m3, m4, m5, l, m6, m7⟩ | ⟨m1, m2, m3 | ⟨b, x, e, p0, hL, h0, hN, hx⟩ | ⟨_, p0, hL, l, e, hb⟩⟩
  ·rw [hA] at m4; cases m4
  ·exact .inl ⟨p0, hL⟩
  ·exact .inl ⟨m2, m3⟩
  ·rw [hA] at m3; cases m3
  ·exact .inl ⟨p0, hL⟩
  ·exact .inl ⟨p0, hL⟩
 ·rcases h.mode with ⟨m1, m2, m3, m4 | ⟨b', x, e, s0, p0, hL, hb', hx⟩⟩ | ⟨m1, m2, m3, m4, m5, l, m6, m7⟩ | ⟨m1, m2, m3⟩
  ·rw [hA] at m4; cases m4
  ·rw [hA] at e;injection e with e1 _
   have e2 := Dh e1;subst e2;refine .inl ⟨m1, fun n e he => ?_, fun a ha => ?_, .inl rfl⟩
   ·rw [hat] at he;split at he
    ·rcases List.mem_append.1 he with he | he
     ·exact m2 _ e he
     ·obtain rfl := List.mem_singleton.1 he;exact hb'
    ·exact m2 n e he
   ·rcases m3 a ha with h1 | h1 | ⟨h1, h2 | ⟨x', h2⟩⟩
    ·exact .inl h1
    ·exact .inr (.inl h1)
    ·exact .inr (.inr ⟨h1, .inl (Ti _ h2)⟩)
    ·rw [hA] at h2;have e3 := Dh (List.mem_singleton.1 h2);subst e3;exact .inr (.inr ⟨h1, .inl hnew⟩)
  ·rw [hA] at m6;exact absurd m6 (fun h => Q4 (b := 0) h)
  ·refine .inr (.inr ⟨m1, fun a ha => ?_, .inl rfl⟩);rcases m2 a ha with h1 | h1
   ·exact .inl h1
   ·exact .inr (IQ _ h1)
theorem EX (h : Inv T C B N ws R c u lg k) {b : Int} {l : List Int} (hA : c.A = jG b :: (l.map jG ++ [kJ])) (hl : ∀ x ∈ l, 0 ≤ x ∧ x < (N : Int)) (hb : 0 ≤ b ∧ b < (N : Int)) {k' : Int → Int} (DI : ∀ z, k' z = if z = ((b.toNat / 8 : Nat) : Int) then ((cu lg b.toNat).2.length : Int) else k z) : Inv T C B N ws R { c with A := l.map jG ++ [kJ] } u lg k' := by
 have hmode : (c.step = 2 ∨ c.step = 5) ∧ c.part = 0 ∧ c.L = [] := by
  rcases h.mode with ⟨m1, m2, m3, m4 | ⟨b', x, e, s0, p0, hL, hb', hx⟩⟩ | ⟨m1, m2, m3, m4, m5, l', m6, m7⟩ | ⟨m1, m2, m3 | ⟨b', x, e, p0, hL, h0, hN, hx⟩ | ⟨s5, p0, hL, l', e, hb⟩⟩
  ·rw [hA] at m4; cases m4
  ·rw [hA] at e;injection e with _ e
   cases l <;> cases e
  ·exact ⟨.inl m1, m2, m3⟩
  ·rw [hA] at m3; cases m3
  ·rw [hA] at e;injection e with _ e
   cases l <;> cases e
  ·exact ⟨.inr s5, p0, hL⟩
 refine ⟨h.st, h.ld, h.ul, h.lgl, h.iP, h.iS, h.iH, h.full, h.eP, h.eS, h.eH, fun p hp => ?_, h.F, h.ent, h.kept, fun z => ?_, fun n => ?_, h.Dk, .inl ⟨hmode.2.1, hmode.2.2⟩, ?_⟩
 ·have := h.val p hp;rw [hA, List.foldl_cons, Dt] at this;exact this
 ·rw [DI];split
  ·omega
  ·exact h.ask z
 ·rw [DI];split
  ·rename_i e;have e' : n = b.toNat / 8 := by omega
   rw [e'];exact Int.le_refl _
  ·exact h.asks n
 ·rcases h.mode with ⟨m1, _⟩ | ⟨m1, m2, m3, m4, m5, _⟩ | ⟨m1, m2, m3⟩
  ·omega
  ·refine .inr (.inl ⟨m1, m2, m3, m4, fun a ha => ?_, l, rfl, hl⟩);rcases m5 a ha with h1 | ⟨h1, h2⟩
   ·exact .inl h1
   ·refine .inr ⟨h1, ?_⟩;rcases h2 with h2 | h2
    ·rw [hA] at h2;rcases List.mem_cons.1 h2 with h2 | h2
     ·right;have e : a = b := by
       unfold jG at h2;injection h2
      rw [e, DI, if_pos rfl]
     ·exact .inl h2
    ·right;rw [DI];split
     ·rename_i e;have e' : a.toNat / 8 = b.toNat / 8 := (by omega);unfold cu;rw [e']
     ·exact h2
  ·refine .inr (.inr ⟨m1, m2, ?_⟩);rcases hmode.1 with s2 | s5
   ·rcases m3 with m3 | ⟨b', x, e, _⟩ | ⟨s5, _⟩
    ·rw [hA] at m3; cases m3
    ·rw [hA] at e;injection e with _ e
     cases l <;> cases e
    ·omega
   ·exact .inr (.inr ⟨s5, hmode.2.1, hmode.2.2, l, rfl, hl⟩)
theorem po (g : Int → Int) (lg : List Lg) (n : Nat) (hn : n < lg.length) : (gJ g lg).getD n (0, []) = (max (lg.getD n (0, [])).1 (g n), (lg.getD n (0, [])).2) := by
 unfold gJ;rw [List.getD_eq_getElem?_getD, List.getElem?_mapIdx, List.getElem?_eq_getElem hn, List.getD_eq_getElem?_getD, List.getElem?_eq_getElem hn];rfl
theorem El (g : Int → Int) (lg : List Lg) (n : Nat) (hn : ¬ n < lg.length) : (gJ g lg).getD n (0, []) = (0, []) := by
 unfold gJ;rw [List.getD_eq_getElem?_getD, List.getElem?_mapIdx, List.getElem?_eq_none oM];rfl
theorem kD {α : Type} {l : List α} {n : Nat} {d : α} (hn : ¬ n < l.length) : l.getD n d = d := by
 rw [List.getD_eq_getElem?_getD, List.getElem?_eq_none oM];rfl
theorem qq {α : Type} {l : List α} {e : α} {m n : Nat} (h : m ≤ n) (he : e ∈ l.take m) : e ∈ l.take n := by
 rw [show m = min m n by omega, ← List.take_take] at he;exact List.mem_of_mem_take he
theorem Ii (L : Lay T C B N ws R) (h : Inv T C B N ws R c u lg k) (hA : c.A = [kJ]) {k' : Int → Int} (DI : ∀ z, k' z = 0) : Inv T C B N ws R { c with A := [] } u (gJ k lg) k' := by
 have hlen : (gJ k lg).length = lg.length := by unfold gJ; rw [List.length_mapIdx]
 have h2 : ∀ n, ((gJ k lg).getD n (0, [])).2 = (lg.getD n (0, [])).2 := by
  intro n;by_cases hn : n < lg.length
  ·rw [po _ _ _ hn]
  ·rw [El _ _ _ hn, kD hn]
 have hmode : (c.step = 2 ∨ c.step = 5) ∧ c.part = 0 ∧ c.L = [] := by
  rcases h.mode with ⟨m1, m2, m3, m4 | ⟨b', x, e, s0, p0, hL, hb', hx⟩⟩ | ⟨m1, m2, m3, m4, m5, l', m6, m7⟩ | ⟨m1, m2, m3 | ⟨b', x, e, p0, hL, h0, hN, hx⟩ | ⟨s5, p0, hL, l', e, hb⟩⟩
  ·rw [hA] at m4; cases m4
  ·rw [hA] at e;unfold stA kJ at e;injection e with e
   injection e with e
   exact absurd e dM
  ·exact ⟨.inl m1, m2, m3⟩
  ·rw [hA] at m3; cases m3
  ·rw [hA] at e;unfold stA kJ at e;injection e with e
   injection e with e
   exact absurd e dM
  ·exact ⟨.inr s5, p0, hL⟩
 have IQ : ∀ p, rh lg p → rh (gJ k lg) p := by
  rintro p ⟨e, he, e1⟩;refine ⟨e, ?_, e1⟩;unfold cu at he ⊢;by_cases hn : p / 8 < lg.length
  ·rw [po _ _ _ hn];exact qq (by show _ ≤ (max _ _ : Int).toNat; omega) he
  ·rw [kD hn] at he;simp at he
 have hsy : ∀ a : Int, ¬ jG a ∈ c.A := by
  intro a hm;rw [hA] at hm;have e := List.mem_singleton.1 hm;unfold jG kJ at e;injection e with e
  exact absurd e dM
 refine ⟨h.st, h.ld, h.ul, by rw [hlen]; exact h.lgl, h.iP, h.iS, h.iH, h.full, h.eP, h.eS, h.eH, fun p hp => ?_, h.F, fun n e he => ?_, fun g hg => ?_, fun z => by rw [DI]; exact Int.le_refl _, fun n => by rw [DI]; omega, h.Dk, .inl ⟨hmode.2.1, hmode.2.2⟩, ?_⟩
 ·have := h.val p hp;rw [hA, List.foldl_cons, Dr] at this;exact this
 ·rw [h2] at he;exact h.ent n e he
 ·obtain ⟨n, hn⟩ := List.mem_iff_getElem?.1 hg;have hn2 : n < lg.length := by
   have := (List.getElem?_eq_some_iff.1 hn).1;omega
  have e1 := Ic hn;rw [po _ _ _ hn2] at e1;rw [← e1];have hm : lg.getD n (0, []) ∈ lg := by
   rw [List.getD_eq_getElem?_getD, List.getElem?_eq_getElem hn2];exact List.getElem_mem hn2
  have h3 := h.kept _ hm;have h4 := h.asks n;show 0 ≤ max (lg.getD n (0, [])).1 (k (n : Int)) ∧ max (lg.getD n (0, [])).1 (k (n : Int)) ≤ ((lg.getD n (0, [])).2.length : Int);omega
 ·right; right;refine ⟨by show 2 ≤ c.step; omega, fun a ha => ?_, .inl rfl⟩;rcases h.mode with ⟨m1, _⟩ | ⟨m1, m2, m3, m4, m5, _⟩ | ⟨m1, m2, m3⟩
  ·omega
  ·rcases m5 a ha with h1 | ⟨⟨e, he, e1⟩, h3⟩
   ·exact .inl h1
   ·right;rcases h3 with h3 | h3
    ·exact absurd h3 (hsy a)
    ·refine ⟨e, ?_, e1⟩;unfold cu at he h3 ⊢;have hi := L.inP ha;have i6 := h.lgl;have hn : a.toNat / 8 < lg.length := (by omega);rw [po _ _ _ hn];refine qq (m := (lg.getD (a.toNat / 8) (0, [])).2.length) ?_ ?_
     ·show _ ≤ (max _ _ : Int).toNat;omega
     ·rw [List.take_length];exact he
  ·rcases m2 a ha with h1 | h1
   ·exact .inl h1
   ·exact .inr (IQ _ h1)
theorem Ik (L : Lay T C B N ws R) (h : Inv T C B N ws R c u lg k) (hA : c.A = []) (h5 : 5 ≤ c.step) : u = R := by
 have eP := h.eP oM;have eS := h.eS oM;have eH := h.eH oM;refine Po (by rw [h.ul, L.rlen]) (fun p hp => ?_);rw [h.ul] at hp;have h1 := (h.val p hp).2 (by
  unfold RC.rem;rw [eP, eS, eH];simp)
 rw [hA] at h1;exact h1
def jb (lg : List Lg) (m : Nat → Nat) : List (Int × W3) := (lg.mapIdx (fun n g => g.2.take (m n))).flatten
def pJ (ws : List W3) (lg : List Lg) (m : Nat → Nat) : List W3 := (jb lg m).foldl (fun o p => o.set p.1.toNat p.2) ws
theorem nZ {m : Nat → Nat} {e : Int × W3} (h : e ∈ jb lg m) : ∃ n, e ∈ (lg.getD n (0, [])).2 := by
 unfold jb at h;obtain ⟨r, hr, he⟩ := List.mem_flatten.1 h;obtain ⟨n, hn⟩ := List.mem_iff_getElem?.1 hr;rw [List.getElem?_mapIdx, Option.map_eq_some_iff] at hn;obtain ⟨g, hg, rfl⟩ := hn;refine ⟨n, ?_⟩;rw [Ic hg];exact List.mem_of_mem_take he
theorem Cq {m : Nat → Nat} {e : Int × W3} {n : Nat} (h : e ∈ (lg.getD n (0, [])).2.take (m n)) : e ∈ jb lg m := by
 have hn : n < lg.length := by
  rcases Nat.lt_or_ge n lg.length with h1 | h1
  ·exact h1
  ·rw [kD oM] at h;simp at h
 unfold jb;refine List.mem_flatten.2 ⟨_, List.mem_iff_getElem?.2 ⟨n, ?_⟩, h⟩;rw [List.getElem?_mapIdx, List.getElem?_eq_getElem hn, List.getD_eq_getElem?_getD, List.getElem?_eq_getElem hn];rfl
theorem xb : ∀ (F : List (Int × W3)) (o : List W3), (F.foldl (fun o p => o.set p.1.toNat p.2) o).length = o.length
 | [], _ => rfl
 | q :: F, o => by rw [List.foldl_cons, xb F, List.length_set]
theorem xd : ∀ (F : List (Int × W3)) (o : List W3) (p : Nat), (∀ q ∈ F, q.1.toNat ≠ p) → (F.foldl (fun o p => o.set p.1.toNat p.2) o).getD p z3 = o.getD p z3
 | [], _, _, _ => rfl
 | q :: F, o, p, h => by
  rw [List.foldl_cons, xd F _ p (fun x hx => h x (List.mem_cons_of_mem _ hx)), set_off (h q (List.mem_cons_self ..))]
theorem wS (m : Nat → Nat) : (pJ ws lg m).length = ws.length := xb _ _
theorem qH (L : Lay T C B N ws R) (h : Inv T C B N ws R c u lg k) (m : Nat → Nat) (hm : ∀ n, (lg.getD n (0, [])).1 ≤ (m n : Int)) : dI T C B (pJ ws lg m) = R := by
 have LB : lq R (jb lg m) := fun e he => by
  obtain ⟨n, hn⟩ := nZ he;have := h.ent n e hn;exact ⟨this.1, this.2.2.2⟩
 have hlen : (pJ ws lg m).length = ws.length := wS m;have hat : ∀ p, p < N → ((pJ ws lg m).getD p z3 = ws.getD p z3 ∧ ∀ e ∈ jb lg m, e.1.toNat ≠ p) ∨ (pJ ws lg m).getD p z3 = R.getD p z3 := by
  intro p hp;exact uE (ws := R) (jb lg m) ws LB p (by rw [L.len]; exact hp)
 rw [L.r];have hA : yI T C B lg → dI T C B (pJ ws lg m) = dI T C B ws := by
  intro ho;refine Eu L.v L.ap hlen (fun p hp => ?_) (fun p hp => ?_)
  ·have hmem := L.iP.1 hp;have hin := L.inP hmem;rcases hat p oM with h1 | h1
   ·exact .inl h1.1
   ·right;rw [h1];have := L.rP hmem;rwa [Int.toNat_natCast] at this
  ·refine xd _ _ _ (fun e he e1 => ?_);obtain ⟨n, hn⟩ := nZ he;have := je (ho n e hn);rw [e1, hp] at this;cases this
 rcases h.mode with ⟨_, m2, _⟩ | ⟨_, _, _, m4, _⟩ | ⟨m1, m2, m3⟩
 ·exact hA m2
 ·exact hA m4
 ·refine Et L.ap hlen (fun p hp => ?_) (fun p hp => ?_) (fun p h1 h2 h3 => ?_)
  ·have hmem := L.iP.1 hp;have hin := L.inP hmem;have hR := L.rP hmem;rw [Int.toNat_natCast] at hR;rw [← hR];rcases hat p oM with ⟨h1, h2⟩ | h1
   ·rcases m2 _ hmem with h3 | ⟨e, he, e1⟩
    ·rw [Int.toNat_natCast] at h3;rw [h1, h3]
    ·rw [Int.toNat_natCast] at he e1;exfalso;refine h2 e (Cq (n := p / 8) (qq ?_ he)) oM;have := hm (p / 8);unfold cu;omega
   ·exact h1
  ·have hmem := L.iS.1 hp;have hin := L.inS hmem;have hR := L.rS hmem;rw [Int.toNat_natCast] at hR;rcases hat p oM with ⟨h1, _⟩ | h1
   ·exact .inl h1
   ·rw [h1, hR];cases hu : bD (ws.getD p z3) with
    | true => exact .inr ⟨rfl, by rw [if_pos rfl]⟩
    | false => exact .inl (by rw [if_neg dM])
  ·by_cases hp : p < N
   ·rcases hat p hp with ⟨h4, _⟩ | h4
    ·exact h4
    ·rw [h4, L.out hp h1 h2 h3]
   ·have hl := L.len;rw [kD oM, kD oM]
end
end Go.Proofs.YtapjfhbonfehpaaGreatDoor
