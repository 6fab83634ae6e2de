/- The recovery code as it is made. -/
import Derived.Test.YtapjfhbonfehpaaGreatDoorV24
import Derived.Test.YtapjfhbonfehpaaGreatDoorV44
set_option linter.unusedSimpArgs false
set_option linter.unusedVariables false
namespace Go.Proofs.YtapjfhbonfehpaaGreatDoor
open Go.RowKit
section
variable (T C B : Int) (N : Nat)
def Dj : Nat → RC → RC × AS × Bool
 | 0, c => (c, A0, true)
 | f + 1, c => match c.A with
  | a :: A' => ({ c with A := A' }, a, false)
  | [] => match c.L with
   | l :: _ => ({ c with ld := true }, vE l, false)
   | [] => if 5 ≤ c.step then ({ c with en := true }, A0, true) else Dj f (stepped (bH T C B N c).1 (bH T C B N c).2)
def fj (c : RC) : RC × AS × Bool := Dj T C B N (c.mu + 1) c
end
section
variable {T C B : Int} {N : Nat}
theorem GA (hv : aC T C B) (hN : ah T C B 7 = (N : Int)) : ∀ (f : Nat) (c : RC), c.ok T C B N → c.mu < f → Spin T C B N c (Dj T C B N f c)
 | 0, _, _, h => absurd h (Nat.not_lt_zero _)
 | f + 1, c, hk, h => by
  unfold Dj;split
  ·rename_i a A' hA;exact Spin.act c a A' hA
  ·rename_i hA;split
   ·rename_i l L' hL;exact Spin.load c l L' hA hL
   ·rename_i hL;split
    ·rename_i h5;exact Spin.done c hA hL h5
    ·rename_i h5;obtain ⟨h1, h2⟩ := su hk hA hL hv hN oM;exact Spin.turn c _ hA hL oM (GA hv hN f _ h1 oM)
theorem jo (hv : aC T C B) (hN : ah T C B 7 = (N : Int)) {c : RC} (hk : c.ok T C B N) : Spin T C B N c (fj T C B N c) := GA hv hN _ c hk (Nat.lt_succ_self _)
theorem Gz {c : RC} {r r' : RC × AS × Bool} (h : Spin T C B N c r) (h' : Spin T C B N c r') : r = r' := by
 induction h with
 | act c a A' hA =>
  cases h' with
  | act _ a2 A2 hA2 =>
   rw [hA] at hA2;injection hA2 with e1 e2
   rw [e1, e2]
  | load _ l L' h hl => rw [hA] at h; cases h
  | done _ h hl h5 => rw [hA] at h; cases h
  | turn _ r h hl h5 k => rw [hA] at h; cases h
 | load c l L' hA hL =>
  cases h' with
  | act _ a2 A2 hA2 => rw [hA] at hA2; cases hA2
  | load _ l2 L2 h hl =>
   rw [hL] at hl;injection hl with e1 e2
   rw [e1]
  | done _ h hl h5 => rw [hL] at hl; cases hl
  | turn _ r h hl h5 k => rw [hL] at hl; cases hl
 | done c hA hL h5 =>
  cases h' with
  | act _ a2 A2 hA2 => rw [hA] at hA2; cases hA2
  | load _ l2 L2 h hl => rw [hL] at hl; cases hl
  | done _ h hl h5 => rfl
  | turn _ r h hl h6 k => omega
 | turn c r hA hL h5 k ih =>
  cases h' with
  | act _ a2 A2 hA2 => rw [hA] at hA2; cases hA2
  | load _ l2 L2 h hl => rw [hL] at hl; cases hl
  | done _ h hl h6 => omega
  | turn _ r2 h hl h6 k2 => exact ih k2
theorem KM (hv : aC T C B) (hN : ah T C B 7 = (N : Int)) {c : RC} {r : RC × AS × Bool} (h : Spin T C B N c r) (hk : c.ok T C B N) (hld : c.ld = false) : r.1.ok T C B N ∧ (r.2.2 = false → r.2.1.o = 1 → r.1.ld = true ∨ r.1.ld = false) := by
 induction h with
 | act c a A' hA =>
  refine ⟨⟨hk.st, hk.pt, hk.FL, ?_, hk.DP, hk.Fk, hk.Lk, hk.Pk, hk.Sk, hk.Hk, hk.e1, hk.e2, hk.e3, hk.e4, hk.z0, ?_⟩, fun _ _ => by cases c.ld <;> simp⟩
  ·have := hk.Am;rw [hA] at this;simp only [List.length_cons] at this;show A'.length ≤ 10000;omega
  ·intro e;have e' : c.ld = true := e;rw [hld] at e';cases e'
 | load c l L' hA hL =>
  refine ⟨⟨hk.st, hk.pt, hk.FL, hk.Am, hk.DP, hk.Fk, hk.Lk, hk.Pk, hk.Sk, hk.Hk, hk.e1, hk.e2, hk.e3, hk.e4, hk.z0, fun _ => ⟨?_, hA⟩⟩, fun _ _ => .inl rfl⟩;show c.L ≠ [];rw [hL];simp
 | done c hA hL h5 =>
  refine ⟨⟨hk.st, hk.pt, hk.FL, hk.Am, hk.DP, hk.Fk, hk.Lk, hk.Pk, hk.Sk, hk.Hk, hk.e1, hk.e2, hk.e3, hk.e4, hk.z0, ?_⟩, fun e => by cases e⟩;intro e;have e' : c.ld = true := e;rw [hld] at e';cases e'
 | turn c r hA hL h5 k ih =>
  refine ih (su hk hA hL hv hN h5).1 ?_;unfold stepped;have e := (kI T C B N c).2;split
  ·show (bH T C B N c).2.ld = false;rw [e];exact hld
  ·rw [e];exact hld
end
def ir (T C B : Int) (K : Nat) (c : RC) (lo : Nat) (p : Value) (hi : Nat) (W : World) : Prop := ∃ v : bf, p = (.agg #[.int .i64 (v).T, .int .i64 (v).C, .int .i64 (v).B, .slice (v).P.A (v).P.l.length (v).P.c, .slice (v).S.A (v).S.l.length (v).S.c, .slice (v).H.A (v).H.l.length (v).H.c, .int .i64 (v).step, .int .i64 (v).part, .slice (v).L.A (v).L.l.length (v).L.c, .slice (v).A.A (v).A.l.length (v).A.c, .slice (v).D.A (v).D.l.length (v).D.c, .slice (v).F.A (v).F.l.length (v).F.c, .bool (v).ld, .bool (v).en]) ∧ v.p = c ∧ (v.T = T ∧ v.C = C ∧ v.B = B) ∧ v.tight ∧ v.SQ ⟨lo, K⟩ hi W
theorem iT (T C B : Int) (K : Nat) (c : RC) (lo : Nat) : GC lo (ir T C B K c lo) where
 set := fun p hi W Cb o x ⟨v, h1, h2, h3, h4, h5⟩ hl hh => ⟨v, h1, h2, h3, h4, h5.set ⟨.inl hl, hh⟩ x⟩
 below := fun p hi W W' ⟨v, h1, h2, h3, h4, h5⟩ hb => ⟨v, h1, h2, h3, h4, h5.below hb⟩
 mono := fun p hi hi' W ⟨v, h1, h2, h3, h4, h5⟩ hh => ⟨v, h1, h2, h3, h4, h5.mono (Nat.le_refl _) rfl hh⟩
theorem ir.to {T C B : Int} {K K' : Nat} {c : RC} {lo hi : Nat} {p : Value} {w W : World} (h : ir T C B K c lo p hi w) (hK : (K = K' ∧ K' < hi) ∨ w.heap.size ≤ K') (hb : Below w.heap.size w W) (hi' : Nat) : ir T C B K' c w.heap.size p hi' W := by
 obtain ⟨v, h1, h2, h3, h4, h5⟩ := h;exact ⟨v, h1, h2, h3, h4, (h5.all hK).below hb⟩
theorem xn (T C B : Int) (N K : Nat) (c : RC) (lo : Nat) (p : Value) (g : GS) (w : World) (hv : aC T C B) (hs : ai w) (hN : ah T C B 7 = (N : Int)) (lM : 0 < N) (hk : c.ok T C B N) (hp : ir T C B K c lo p w.heap.size w) (hlo : lo ≤ w.heap.size) (hx : W3.ok ⟨g.v, g.r, g.f⟩) :
  Calls Tryz.prog 147 #[p, (.agg #[.int .i64 (g).v, .int .u32 (g).r, .int .u32 (g).f, .bool (g).k])] w fun e w' => ∃ p' : Value, e = .returned (.tuple #[.iface 120 p', (Gf ((fj T C B N (eE c ⟨g.v, g.r, g.f⟩)).2.1)), .bool (fj T C B N (eE c ⟨g.v, g.r, g.f⟩)).2.2]) ∧ ir T C B K (fj T C B N (eE c ⟨g.v, g.r, g.f⟩)).1 lo p' w.heap.size w' ∧ Below w.heap.size w w' := by
 obtain ⟨v, rfl, rfl, ⟨rfl, rfl, rfl⟩, ht, hq⟩ := hp;refine (KW N ⟨lo, K⟩ v ⟨g.v, g.r, g.f⟩ g.k w hq hlo hk ht hv hs hN lM hx).mono ?_;rintro e w' ⟨v', a, d, rfl, hsp, hT, Ct, hq', hb⟩;obtain ⟨Wn, hgl⟩ := uy hk hx;have e1 := Gz hsp (jo hv hN Wn);rw [← e1];exact ⟨_, rfl, ⟨v', rfl, rfl, hT, Ct, hq'⟩, hb⟩
end Go.Proofs.YtapjfhbonfehpaaGreatDoor
namespace Go.Proofs.YtapjfhbonfehpaaGreatDoor
open Go.RowKit Go.Maps
def pend : List AS → Nat
 | [] => 0
 | a :: A => (if a.o = 3 then 1 else 0) + pend A
theorem zC : ∀ (A A' : List AS), pend (A ++ A') = pend A + pend A'
 | [], _ => by simp [pend]
 | a :: A, A' => by
  show (if a.o = 3 then 1 else 0) + pend (A ++ A') = _;rw [zC A A'];show _ = ((if a.o = 3 then 1 else 0) + pend A) + pend A';omega
theorem K2 (l : List Int) : pend (l.map jG) = 0 := by
 induction l with
 | nil => rfl
 | cons a l ih =>
  show (if (jG a).o = 3 then 1 else 0) + pend (l.map jG) = 0;rw [ih];rfl
theorem EJ (l : List Int) : pend (gZ l) = 0 := by
 unfold gZ;rw [zC, K2];split <;> rfl
def RC.sig (c : RC) : Nat := pend c.A + c.P.length + c.S.length + c.H.length
def nI (p : Int) : Int := if p = 1 then 1 else if p = 2 then 3 else if p = 3 then 203 else 0
theorem zg (p : Int) : 0 ≤ nI p ∧ nI p ≤ 203 := by
 unfold nI;split
 ·decide
 ·split
  ·decide
  ·split <;> decide
def RC.phi (c : RC) : Int := (c.A.length : Int) + c.L.length + c.D.length + 2 * (5 - c.step) + 300 * ((c.P.length : Int) + c.S.length + c.H.length) - nI c.part - (if c.ld = true then 1 else 0)
section
variable {T C B : Int} {N : Nat} {c : RC}
theorem Ej (h : c.ok T C B N) (hA : c.A = []) (hL : c.L = []) (h5 : c.step < 5) : (stepped (bH T C B N c).1 (bH T C B N c).2).sig ≤ c.sig ∧ (stepped (bH T C B N c).1 (bH T C B N c).2).phi ≤ c.phi := by
 have hu := zg c.part;have u0 : nI 0 = 0 := rfl;have u1 : nI 1 = 1 := rfl;have u2 : nI 2 = 3 := rfl;have u3 : nI 3 = 203 := rfl;have st := h.st;have s0 : c.sig = c.P.length + c.S.length + c.H.length := by unfold RC.sig; rw [hA]; show 0 + _ + _ + _ = _; omega
 have p0 : c.phi = (c.D.length : Int) + 2 * (5 - c.step) + 300 * ((c.P.length : Int) + c.S.length + c.H.length) - nI c.part - (if c.ld = true then 1 else 0) := by
  unfold RC.phi;rw [hA, hL];simp only [List.length_nil];omega
 rw [s0, p0];have one : ∀ a x, pend (c.A ++ [stA a x]) = 1 := by
  intro a x;rw [hA];rfl
 have hl1 : ∀ a x, (c.A ++ [stA a x]).length = 1 := by
  intro a x;rw [hA];rfl
 have IM : c.A.length = 0 := by rw [hA]; rfl
 have II : pend c.A = 0 := by rw [hA]; rfl
 have Kk : c.L.length = 0 := by rw [hL]; rfl
 have hD1 : ∀ a : Int, (c.D ++ [a]).length = c.D.length + 1 := fun a => by rw [List.length_append]; rfl
 unfold bH;by_cases h0 : c.step = 0
 ·rw [if_pos h0];unfold bG;cases hP : c.P with
  | nil =>
   simp only [stepped, if_true, RC.sig, RC.phi, hP, IM, II, Kk, List.length_nil];omega
  | cons a P' =>
   simp only;split
   ·rename_i q0;simp only [stepped, Bool.false_eq_true, if_false, RC.sig, RC.phi, IM, II, List.length_cons, List.length_nil, u1];rw [q0, u0];omega
   ·split
    ·rename_i q0 hw;simp only [stepped, Bool.false_eq_true, if_false, RC.sig, RC.phi, IM, II, List.length_cons, List.length_nil, u2];rw [hw.1, u1];omega
    ·split
     ·rename_i q0 hnw hw;have h32 := qC T C B (aT (headW c.F).f).1;have hen : ∀ z, (iA z (3 * (dw c.F).v.toNat)).length = 3 * (dw c.F).v.toNat := fun z => mI _ _;simp only [stepped, Bool.false_eq_true, if_false, RC.sig, RC.phi, IM, II, List.length_cons, List.length_nil, u3, hen];rw [hw.1, u2];omega
     ·split
      ·simp only [stepped, Bool.false_eq_true, if_false, RC.sig, RC.phi, IM, II, Kk, List.length_cons, u0];omega
      ·simp only [stepped, Bool.false_eq_true, if_false, RC.sig, RC.phi, one, hl1, hD1, Kk, List.length_cons, u0];omega
 rw [if_neg h0];by_cases h2 : c.step = 2
 ·rw [if_pos h2];unfold cm;cases hP : c.S with
  | nil =>
   simp only [stepped, if_true, RC.sig, RC.phi, hP, IM, II, Kk, List.length_nil];omega
  | cons a P' =>
   simp only;split
   ·rename_i q0;simp only [stepped, Bool.false_eq_true, if_false, RC.sig, RC.phi, IM, II, List.length_cons, List.length_nil, u1];rw [q0, u0];omega
   ·split
    ·simp only [stepped, Bool.false_eq_true, if_false, RC.sig, RC.phi, one, hl1, hD1, Kk, List.length_cons, u0];omega
    ·simp only [stepped, Bool.false_eq_true, if_false, RC.sig, RC.phi, IM, II, Kk, List.length_cons, u0];omega
 rw [if_neg h2];by_cases h3 : c.step = 3
 ·rw [if_pos h3];unfold dE;cases hP : c.H with
  | nil =>
   simp only [stepped, if_true, RC.sig, RC.phi, hP, IM, II, Kk, List.length_nil];omega
  | cons a P' =>
   simp only;split
   ·rename_i q0;simp only [stepped, Bool.false_eq_true, if_false, RC.sig, RC.phi, IM, II, List.length_cons, List.length_nil, u1];rw [q0, u0];omega
   ·split
    ·simp only [stepped, Bool.false_eq_true, if_false, RC.sig, RC.phi, one, hl1, hD1, Kk, List.length_cons, u0];omega
    ·simp only [stepped, Bool.false_eq_true, if_false, RC.sig, RC.phi, IM, II, Kk, List.length_cons, u0];omega
 rw [if_neg h3];have hk := wT c.D;have hpk : pend (c.A ++ gZ c.D) = 0 := by rw [hA]; exact EJ _
 have hlk : (c.A ++ gZ c.D).length = (gZ c.D).length := by rw [hA]; rfl
 simp only [stepped, jD, if_true, RC.sig, RC.phi, hpk, hlk, Kk, List.length_nil];omega
theorem vZ (hv : aC T C B) (hN : ah T C B 7 = (N : Int)) {r : RC × AS × Bool} (h : Spin T C B N c r) : c.ok T C B N → c.ld = false → (if r.2.1.o = 3 then 1 else 0) + r.1.sig ≤ c.sig ∧ (r.2.2 = false → r.1.phi + 1 ≤ c.phi) := by
 induction h with
 | act c a A' hA =>
  intro hk hld;refine ⟨?_, fun _ => ?_⟩
  ·show (if a.o = 3 then 1 else 0) + (pend A' + c.P.length + c.S.length + c.H.length) ≤ pend c.A + c.P.length + c.S.length + c.H.length;rw [hA];show _ ≤ ((if a.o = 3 then 1 else 0) + pend A') + c.P.length + c.S.length + c.H.length;omega
  ·show RC.phi { c with A := A' } + 1 ≤ c.phi;simp only [RC.phi, hA, List.length_cons];omega
 | load c l L' hA hL =>
  intro hk hld;refine ⟨?_, fun _ => ?_⟩
  ·show 0 + (pend c.A + c.P.length + c.S.length + c.H.length) ≤ pend c.A + c.P.length + c.S.length + c.H.length;omega
  ·show RC.phi { c with ld := true } + 1 ≤ c.phi;simp only [RC.phi, hld, if_true, Bool.false_eq_true, if_false];omega
 | done c hA hL h5 =>
  intro hk hld;refine ⟨?_, fun e => by cases e⟩;show 0 + (pend c.A + c.P.length + c.S.length + c.H.length) ≤ pend c.A + c.P.length + c.S.length + c.H.length;omega
 | turn c r hA hL h5 k ih =>
  intro hk hld;obtain ⟨h1, h2⟩ := Ej hk hA hL h5;have LD : (stepped (bH T C B N c).1 (bH T C B N c).2).ld = false := by
   unfold stepped;have e := (kI T C B N c).2;split
   ·show (bH T C B N c).2.ld = false;rw [e];exact hld
   ·rw [e];exact hld
  obtain ⟨h3, h4⟩ := ih (su hk hA hL hv hN h5).1 LD;exact ⟨by omega, fun e => by have := h4 e; omega⟩
theorem Jl (hk : c.ok T C B N) (x : W3) : (eE c x).sig = c.sig ∧ (eE c x).phi = c.phi := by
 unfold eE;by_cases hl : c.ld = true
 ·rw [if_pos hl];obtain ⟨hL, hA⟩ := hk.ldL hl;obtain ⟨l, L', LV⟩ := List.exists_cons_of_ne_nil hL;refine ⟨rfl, ?_⟩;simp only [RC.phi, hl, LV, List.tail_cons, List.length_cons, if_true, Bool.false_eq_true, if_false];omega
 ·rw [if_neg hl];exact ⟨rfl, rfl⟩
theorem Du (hk : c.ok T C B N) : 0 ≤ c.phi := by
 have hu := zg c.part;have st := hk.st;have hl : c.ld = true → 1 ≤ c.L.length := fun e => by
  have := (hk.ldL e).1;cases h : c.L with
  | nil => exact absurd h this
  | cons a l => simp
 have hp : c.part ≠ 0 → 1 ≤ c.P.length + c.S.length + c.H.length := fun e => by
  rcases hk.z0 e with ⟨_, h⟩ | ⟨_, h⟩ | ⟨_, h⟩
  ·have := List.length_pos_iff.2 h; omega
  ·have := List.length_pos_iff.2 h; omega
  ·have := List.length_pos_iff.2 h; omega
 have h0 : c.part = 0 → nI c.part = 0 := fun e => by rw [e]; rfl
 unfold RC.phi;by_cases e : c.part = 0
 ·have := h0 e;cases hd : c.ld with
  | true => have := hl hd; simp only [if_true]; omega
  | false => simp only [Bool.false_eq_true, if_false]; omega
 ·have := hp e;cases hd : c.ld with
  | true => have := hl hd; simp only [if_true]; omega
  | false => simp only [Bool.false_eq_true, if_false]; omega
end
end Go.Proofs.YtapjfhbonfehpaaGreatDoor
set_option maxRecDepth 100000
set_option maxHeartbeats 40000000
namespace Go.Proofs.YtapjfhbonfehpaaGreatDoor
open Go.RowKit
def jP (T C B : Int) : RC := ⟨aY T C B, au T C B, bu T C B, 0, 0, [], [], [], [], false, false⟩
theorem SL.Q.of {A : Option Addr} {c : Nat} {l : List Int} {w w' : World} {lo : Nat} (hr : Rd w w.heap.size 1 A l.length (l.map (Value.int .i64))) (hc : l.length ≤ c) (hb : Below w.heap.size w w') : (⟨A, c, l⟩ : SL Int).Q ⟨lo, lo⟩ lo 1 ny w' := by
 refine ⟨hc, fun e => ?_, by rw [uF]; exact (hr.below hb).more hb.size, fun _ b o _ => by show (b < lo ∧ b ≠ lo) ∨ lo ≤ b; omega⟩;have e' : A = none := e;subst e';rcases Nat.eq_zero_or_pos l.length with h0 | h0
 ·exact h0
 ·obtain ⟨b, off, e, _⟩ := hr.2 h0;cases e
theorem SL.Q.nilQ {α : Type} {lo : Lo} {hi size : Nat} {enc : α → List Value} {w : World} : (SL.nil α).Q lo hi size enc w := ⟨Nat.le_refl _, fun _ => rfl, Rd.nil _ _ _ _, fun h => absurd h (Nat.lt_irrefl _)⟩
theorem wH (T C B : Int) (w : World) (hs : ai w) (hv : aC T C B) : Calls Tryz.prog 27 #[(.agg #[.int .i64 T, .int .i64 C, .int .i64 B])] w fun e w' => ∃ p : Value, e = .returned (.tuple #[.iface 120 p, .int .i64 0]) ∧ ir T C B w.heap.size (jP T C B) w.heap.size p w.heap.size w' ∧ Below w.heap.size w w' := by
 have hp := hs.pos;go_enter Tryz.func27, Tryz.ntmps27;go_wp2_with (first | (go_at_call 18; refine rB (cZ T C B _ hv (hs.below ae)) ?_; intro w1 hb1 ar aA hs1; (try simp at hs1); have hz1 := zL w.heap.size w1; have hq1 := zL 0 w1));have e0 := cI w1 w.heap.size 0 T;have e1 := cI w1 w.heap.size 1 C;have e2 := cI w1 w.heap.size 2 B;have hB1 : Below w.heap.size w w1 := ae;have HS := aa (hs.below hB1);clear ar aA hb1;refine wp_region_held_drew (S := (fun w' => w'.cell? ⟨w.heap.size, 0, none⟩ = some (.int .i64 T) ∧ w'.cell? ⟨w.heap.size, 1, none⟩ = some (.int .i64 C) ∧ w'.cell? ⟨w.heap.size, 2, none⟩ = some (.int .i64 B))) kR (by first | exact ⟨by go_simp, by go_simp, by go_simp⟩) (fun hHeld => ?_);refine az 0 ?_;refine az 1 ?_;refine az 3 ?_;refine az 5 ?_;refine wE 2 fun K hK => ?_;go_simp;(go_at_call 21; refine (zN T C B _ hv (HS.out.below ae)).mono ?_; rintro e w2 ⟨A2, c2, rfl, yl, -, kX, hc2⟩; have acy := aa yl; have HC2 := aa hc2; clear yl hc2; have hb2 : Below _ _ w2 := qZ; clear kX; obtain ⟨aH, aL, hs2⟩ := bC hb2; (try simp at hs2); have hz2 := zL w.heap.size w2);go_wp2_with fail;refine oK hK (by first | exact ⟨by go_simp, by go_simp, by go_simp⟩) fun hHeld => ?_;clear hK K;refine wE 4 fun K hK => ?_;go_simp;(go_at_call 23; refine (nK T C B _ hv (HS.out.below ae)).mono ?_; rintro e w3 ⟨A3, c3, rfl, S2, -, gf, hc3⟩; have acx := aa S2; have HC3 := aa hc3; clear S2 hc3; have hb3 : Below _ _ w3 := jk; clear gf; obtain ⟨cN, cH, hs3⟩ := bC hb3; (try simp at hs3); have hz3 := zL w.heap.size w3);go_wp2_with fail;refine oK hK (by first | exact ⟨by go_simp, by go_simp, by go_simp⟩) fun hHeld => ?_;clear hK K;refine wE 6 fun K hK => ?_;go_simp;(go_at_call 26; refine (zE T C B _ hv (HS.out.below ae)).mono ?_; rintro e w4 ⟨A4, c4, rfl, IE, -, dy, LJ⟩; have acw := aa IE; have HC4 := aa LJ; clear IE LJ; have hb4 : Below _ _ w4 := nV; clear dy; obtain ⟨eB, fZ, hs4⟩ := bC hb4; (try simp at hs4); have iZ := zL w.heap.size w4);go_wp2_with fail;refine oK hK (by first | exact ⟨by go_simp, by go_simp, by go_simp⟩) fun hHeld => ?_;clear hK K;refine az 7 ?_;refine az 8 ?_;refine az 9 ?_;refine az 10 ?_;refine wD ?_;all_goals go_wp2_with fail
 all_goals refine bodyPost_ret (by simp [results, Tryz.results27, go_sem]; rfl) rfl ⟨_, rfl, ⟨⟨T, C, B, ⟨A2, c2, aY T C B⟩, ⟨A3, c3, au T C B⟩, ⟨A4, c4, bu T C B⟩, 0, 0, SL.nil Int, SL.nil AS, SL.nil Int, SL.nil (Int × W3), false, false, ⟨0, 0⟩⟩, (by first | rfl | (simp [SL.nil]; done)), rfl, ⟨rfl, rfl, rfl⟩, (fun h => by rcases h with h | h <;> simp at h), ⟨?_, ?_, ?_, SL.Q.nilQ, SL.Q.nilQ, SL.Q.nilQ, SL.Q.nilQ⟩⟩, ae⟩
 all_goals first
  | exact SL.Q.of acy.out HC2.out ae
  | exact SL.Q.of acx.out HC3.out ae
  | exact SL.Q.of acw.out HC4.out ae
end Go.Proofs.YtapjfhbonfehpaaGreatDoor
