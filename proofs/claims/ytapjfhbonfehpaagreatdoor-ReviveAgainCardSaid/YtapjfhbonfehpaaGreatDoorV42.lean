/- The recovery code: plain, behind the count of a descriptor. -/
import Derived.Test.YtapjfhbonfehpaaGreatDoorV41
set_option linter.unusedSimpArgs false
set_option linter.unusedVariables false
set_option maxRecDepth 100000
set_option maxHeartbeats 40000000
namespace Go.Proofs.YtapjfhbonfehpaaGreatDoor
open Go.RowKit
theorem uI (x : W3) (W : World) : (Instr.field 56 (qg x) 0).run Tryz.prog W = .ok (.int .i64 x.v) W := by kernel_rfl
theorem GW {c : bf} {g : Nat} {w : World} (h : c.R g w) (hs : ai w) : 0 < g := by
 rcases Nat.eq_zero_or_pos g with e | e
 ·subst e;have h1 := h.1.at (j := 3) rfl;have h2 := hs 3 1 rfl;rw [h1] at h2;injection h2 with h2
  cases h2
 ·exact e
theorem wj {g : Nat} {w w' : World} (h : ai w) (hb : bB g w.heap.size w w') (hg : 0 < g) : ai w' := fun k u hu => (FW hb h.pos hg k).trans (h k u hu)
theorem BZ (c : bf) (g pa N : Nat) (a : Int) (rest : List Int) (q0 : Int × W3) (w : World) (h : c.R g w) (hl : c.P.l = a :: rest) (ha : a = (pa : Int)) (hp : c.part = 2) (r fl : List (Int × W3)) (p : Int × W3) (rX : c.F.l = q0 :: r) (hF1 : c.F.l = fl ++ [p]) (qj : c.A.l.length ≤ 1000000) (hD6 : c.D.l.length ≤ 1000000) (hv : aC c.T c.C c.B) (hs : ai w) (hN : ah c.T c.C c.B 7 = (N : Int)) (lM : 0 < N) (hP : iY c.T c.C c.B pa = true) (vI : pa < N) (Kt : ∀ q ∈ c.F.l, 0 ≤ q.1 ∧ q.1 < (N : Int) ∧ q.2.ok) (Gd : c.F.l.length ≤ 1000000) (hf0 : ¬ q0.2.f = 0) (hbad : ¬ (1 ≤ p.2.v ∧ p.2.v ≤ aD c.T c.C c.B (aT q0.2.f).1)) :
  Calls Tryz.prog 150 #[.pointer (some ⟨g, 0, none⟩)] w fun e w' => e = .returned (.bool false) ∧ ∃ (A' : SL AS) (D' : SL Int), A'.l = c.A.l ++ [⟨3, a, 0, 0, 0, (aj c.T c.C c.B (cK N c.F.l) pa).v, (aj c.T c.C c.B (cK N c.F.l) pa).r, (aj c.T c.C c.B (cK N c.F.l) pa).f⟩] ∧ D'.l = c.D.l ++ [a] ∧ ({ c with A := A', D := D', P := c.P.tl 1, part := 0 } : bf).R g w' ∧ bB g w.heap.size w w' := by
 have hx : q0.2.ok := (Kt q0 (by rw [rX]; simp)).2.2;have kV := fun W (hW : c.R g W) (hs' : ai W) => tJ c g q0.2 W hW hv hs' (by unfold W3.ok at hx; omega) (by unfold W3.ok at hx; omega);have hlast := fun W (hW : ({ c with part := 3 } : bf).R g W) => jc { c with part := 3 } g fl p W hW hF1 (by have := Gd; rw [hF1] at this; simp at this; omega);have iO := fun W (hW : ({ c with part := 3 } : bf).R g W) (hs' : ai W) => oq { c with part := 3 } g pa N W hW hv hs' hN lM hP vI Kt Gd;have hst := fun W (hW : ({ c with part := 3 } : bf).R g W) => l9 { c with part := 3 } g pa (aj c.T c.C c.B (cK N c.F.l) pa) W hW qj hD6;rw [← ha] at iO hst;simp only at iO hst;generalize aj c.T c.C c.B (cK N c.F.l) pa = res at iO hst ⊢;have vS := aa iO;have fV := aa hst;clear iO hst qj hD6;generalize hPl : aF c.T c.C c.B (aT q0.2.f).1 = pl at *;generalize hPn : aD c.T c.C c.B (aT q0.2.f).1 = pn at *;generalize hok : dB c.T c.C c.B q0.2 = ok at *;have iq := aa hlast;have uR := aa kV;have HS := aa hs;have HF0 := aa rX;obtain ⟨n, hn⟩ : ∃ n, c.P.l.length = n := ⟨_, rfl⟩;have hpos : 0 < n := by rw [← hn, hl]; simp
 obtain ⟨b, off, hA, hb, hbg, hc⟩ := h.2.P.at_ bI (k := 0) (a := a) (by rw [hl]; rfl);have q : w.cell? ⟨g, 3, none⟩ = some (.slice (some ⟨b, off, none⟩) n c.P.c) := by have := h.1.at (j := 3) rfl; unfold SL.v at this; rwa [hA, hn] at this
 have q7 : w.cell? ⟨g, 7, none⟩ = some (.int .i64 c.part) := h.1.at (j := 7) rfl;have qb : w.cell? ⟨b, off, none⟩ = some (.int .i64 a) := by have := hc 0 _ rfl; simpa using this
 have hgl : g < w.heap.size := h.1.2.2;have qf : ∀ o, w.frozen? ⟨g, o, none⟩ = false := h.1.2.1;have hcap := h.2.P.1;rw [hn] at hcap;have h0 : (0 : Int) < (n : Int) := by omega
 have h1 : ¬ n = 0 := by omega
 have h2 : ¬ (n : Int) = 0 := by omega
 have e0 : (n == 0) = false := by simpa using h1
 obtain ⟨TA, TN, TC, hTe⟩ : ∃ TA TN TC, (c.P.tl 1).v = .slice TA TN TC := ⟨_, _, _, rfl⟩;have hsl := fun W => bM c.P b off n hn hA oM W;rw [hTe] at hsl;have vW := aa hTe;have HA := aa hA;have Hn := aa hn;have Hl := aa hl;obtain ⟨m, hm⟩ : ∃ m, c.F.l.length = m := ⟨_, rfl⟩;have Lv : 0 < m := by rw [← hm, rX]; simp
 obtain ⟨bF, oF, Bl, Ws, LM, sF⟩ := h.2.F.at_ iG (k := 0) (a := q0) (by rw [rX]; rfl);have KY : w.cell? ⟨g, 11, none⟩ = some (.slice (some ⟨bF, oF, none⟩) m c.F.c) := by have := h.1.at (j := 11) rfl; unfold SL.v at this; rwa [Bl, hm] at this
 have r1 : w.cell? ⟨bF, oF + 1, none⟩ = some (.int .i64 q0.2.v) := by have := sF 1 _ rfl; simpa using this
 have r2 : w.cell? ⟨bF, oF + 2, none⟩ = some (.int .u32 q0.2.r) := by have := sF 2 _ rfl; simpa using this
 have r3 : w.cell? ⟨bF, oF + 3, none⟩ = some (.int .u32 q0.2.f) := by have := sF 3 _ rfl; simpa using this
 have BP : w.cell? ⟨bF, oF + 1 + 2, none⟩ = some (.int .u32 q0.2.f) := r3;have m0 : (0 : Int) < (m : Int) := by omega
 have m1 : 0 < m := Lv;have HR := aa h;have VO := aa Bl;have HmF := aa hm;clear hTe hA hc hn h hl Bl sF hm rX;rw [hp] at q7;have e3 : (q0.2.f != 0) = true := by simpa using hf0
 clear hp hlast kV hs hx hv hPl hPn hf0 ha Kt Gd hN hP hF1;go_enter Tryz.func150, Tryz.ntmps150;go_upto_region 16 with (first | (go_at_call 154; refine rB (uR.out _ (HR.out.below ae) (HS.out.below ae)) ?_; intro w2 hb2 aH aL hs2; (try simp at hs2); have hg2 := zL g w2; have hl2 := zL bF w2))
 have CC : Below w.heap.size w w2 := ae;have ic := aa ((HR.out.below CC).putPart 3);have qd := aa (bB.setCell ((bB.refl g w.heap.size w).of CC) (p := ⟨g, 7, none⟩) (.inl rfl) (.int .i64 3));generalize hw3 : w2.setCell ⟨g, 7, none⟩ (.int .i64 3) = w3 at ic qd ⊢;have yg := qd.out.size;have Vy := aa (wj HS.out qd.out (GW HR.out HS.out));clear hb2 aH aL hs2 hg2 hl2 hw3 CC q q7 qf KY r1 r2 r3 BP qb;have qf : ∀ o, w3.frozen? ⟨g, o, none⟩ = false := ic.out.1.2.1;have q : w3.cell? ⟨g, 3, none⟩ = some (.slice (some ⟨b, off, none⟩) n c.P.c) := by have h := ic.out.1.at (j := 3) rfl; unfold SL.v at h; rwa [HA.out, Hn.out] at h
 have q7 : w3.cell? ⟨g, 7, none⟩ = some (.int .i64 3) := ic.out.1.at (j := 7) rfl;have KY : w3.cell? ⟨g, 11, none⟩ = some (.slice (some ⟨bF, oF, none⟩) m c.F.c) := by have h := ic.out.1.at (j := 11) rfl; unfold SL.v at h; rwa [VO.out, HmF.out] at h
 obtain ⟨Ge, NZ, Jj, -, -, I9⟩ := ic.out.2.F.at_ iG (k := 0) (a := q0) (by show c.F.l[0]? = _; rw [HF0.out]; rfl);have L4 : (some (⟨Ge, NZ, none⟩ : Addr)) = some ⟨bF, oF, none⟩ := Jj.symm.trans VO.out;injection L4 with L4
 injection L4 with hA1 hA2
 subst hA1 hA2;have r3 : w3.cell? ⟨Ge, NZ + 3, none⟩ = some (.int .u32 q0.2.f) := by have := I9 3 _ rfl; simpa using this
 have BP : w3.cell? ⟨Ge, NZ + 1 + 2, none⟩ = some (.int .u32 q0.2.f) := r3;have hg3 := zL g w3;have hl3 := zL Ge w3;clear Jj I9;have OL := fun W => uI p.2 W;by_cases hv1 : 1 ≤ p.2.v
 ·have hv2 : ¬ p.2.v ≤ pn := fun h => hbad ⟨hv1, h⟩;clear hbad;have Oo : p.2.v ≥ 1 := hv1;go_wp2_with (first
   | (go_at_call 155; refine rB (iq.out _ (ic.out.below ae)) ?_; intro w4 hb4 eB fZ hs4; (try simp at hs4); have hg4 := zL g w4; have hl4 := zL Ge w4)
   | (go_at_call 157; refine rB (vS.out _ (ic.out.below ae) (Vy.out.below ae)) ?_; intro w5 hb5 bX cw hs5; (try simp at hs5); have hg5 := zL g w5)
   | (go_at_call 156; refine (fV.out _ (ic.out.below ae)).mono ?_; rintro e w6 ⟨A', D', rfl, yx, hD4, dY, hB4⟩; have hBw : Below w3.heap.size w3 w5 := ae; have kY := qd.out.of (hBw.mono yg); have jF := kY.trans (hB4.mono kY.size); have hs6 := jF.size; have qf6 := dY.1.2.1; have pN : g < w6.heap.size := dY.1.2.2; have q6 : w6.cell? ⟨g, 3, none⟩ = some (.slice (some ⟨b, off, none⟩) n c.P.c) := (by have h := dY.1.at (j := 3) rfl; unfold SL.v at h; rwa [HA.out, Hn.out] at h); have RA : ∃ u, w6.cell? ⟨g, 7, none⟩ = some u := ⟨_, dY.1.at (j := 7) rfl⟩; obtain ⟨u67, RA⟩ := RA; have iI := aa dY; have jr := aa jF; have Kf := aa yx; have Kd := aa hD4; clear dY hB4 jF kY hBw yx hD4))
  have hT := iI.out.2.P.tl bI (a := a) (l := rest) Hl.out;have MC := aa ((iI.out.putPv hT vW.out).putPart 0);have Bp := aa (bB.setCell (bB.setCell jr.out (p := ⟨g, 3, none⟩) (.inl rfl) (.slice TA TN TC)) (p := ⟨g, 7, none⟩) (.inl rfl) (.int .i64 0));clear hT;go_ret;refine ⟨rfl, A', D', Kf.out, Kd.out, ?_, ?_⟩
  ·with_reducible exact MC.out
  ·with_reducible exact Bp.out
 ·clear hbad;have Oo : ¬ p.2.v ≥ 1 := hv1;go_wp2_with (first
   | (go_at_call 155; refine rB (iq.out _ (ic.out.below ae)) ?_; intro w4 hb4 eB fZ hs4; (try simp at hs4); have hg4 := zL g w4; have hl4 := zL Ge w4)
   | (go_at_call 157; refine rB (vS.out _ (ic.out.below ae) (Vy.out.below ae)) ?_; intro w5 hb5 bX cw hs5; (try simp at hs5); have hg5 := zL g w5)
   | (go_at_call 156; refine (fV.out _ (ic.out.below ae)).mono ?_; rintro e w6 ⟨A', D', rfl, yx, hD4, dY, hB4⟩; have hBw : Below w3.heap.size w3 w5 := ae; have kY := qd.out.of (hBw.mono yg); have jF := kY.trans (hB4.mono kY.size); have hs6 := jF.size; have qf6 := dY.1.2.1; have pN : g < w6.heap.size := dY.1.2.2; have q6 : w6.cell? ⟨g, 3, none⟩ = some (.slice (some ⟨b, off, none⟩) n c.P.c) := (by have h := dY.1.at (j := 3) rfl; unfold SL.v at h; rwa [HA.out, Hn.out] at h); have RA : ∃ u, w6.cell? ⟨g, 7, none⟩ = some u := ⟨_, dY.1.at (j := 7) rfl⟩; obtain ⟨u67, RA⟩ := RA; have iI := aa dY; have jr := aa jF; have Kf := aa yx; have Kd := aa hD4; clear dY hB4 jF kY hBw yx hD4))
  have hT := iI.out.2.P.tl bI (a := a) (l := rest) Hl.out;have MC := aa ((iI.out.putPv hT vW.out).putPart 0);have Bp := aa (bB.setCell (bB.setCell jr.out (p := ⟨g, 3, none⟩) (.inl rfl) (.slice TA TN TC)) (p := ⟨g, 7, none⟩) (.inl rfl) (.int .i64 0));clear hT;go_ret;refine ⟨rfl, A', D', Kf.out, Kd.out, ?_, ?_⟩
  ·with_reducible exact MC.out
  ·with_reducible exact Bp.out
theorem uF (l : List Int) : l.flatMap ny = l.map (Value.int .i64) := by
 induction l with
 | nil => rfl
 | cons a l ih => rw [List.flatMap_cons, ih]; rfl
theorem Dv {w : World} {base size n c o : Nat} {e : TypeId} {v x : Value} {xs : List Value} (h : w.ownsRow base e size v n xs) (hc : c < base) : (w.setCell ⟨c, o, none⟩ x).ownsRow base e size v n xs := by
 obtain ⟨h1, h2⟩ := h;refine ⟨h1, ?_⟩;rcases h2 with h2 | ⟨g, cap, cur, h3, h4, h5, h6⟩
 ·exact .inl h2
 ·exact .inr ⟨g, cap, cur, h3, h4, (Below.heap_setCell _ _ _ _ (by show g ≠ c; omega)).trans h5, h6⟩
theorem aB.belowB {B g : Nat} {cs : List Value} {w w' : World} (h : aB g cs w) (hb : Below B w w') (hg : g < B) : aB g cs w' := by
 obtain ⟨h1, h2, h3⟩ := h;exact ⟨fun j u hu => (hb.cell (p := ⟨g, j, none⟩) hg).trans (h1 j u hu), fun o => (hb.frozen (p := ⟨g, o, none⟩) hg).trans (h2 o), Nat.lt_of_lt_of_le h3 hb.size⟩
theorem jW.R {w : World} {lo : Lo} {base g : Nat} {A : Option Addr} {c : Nat} {l : List Int} (h : jW w base 52 1 (.slice A l.length c) l.length (l.map (Value.int .i64))) (hg : g + 2 < base) (hb : base ≤ w.heap.size) (Qp : ∀ b o, 0 < l.length → A = some ⟨b, o, none⟩ → b < base → (b < lo.n ∧ lo.n ≤ g ∧ b ≠ lo.K) ∨ g + 2 < b) : (⟨A, c, l⟩ : SL Int).R lo g 1 ny w := by
 rcases h with h | ⟨A2, e, hr, hn⟩
 ·obtain ⟨A', cap, e, hcp, hbl⟩ := aX h;injection e with e1 _ e3
  subst e1 e3;obtain ⟨A3, abL, e, nh⟩ := Rd.of_own h;injection e with e1 _ e3
  subst e1 e3;refine ⟨hcp, fun e => ?_, by rw [uF]; exact nh, fun hp b o e => ?_⟩
  ·subst e;rcases Nat.eq_zero_or_pos l.length with h0 | h0
   ·exact h0
   ·obtain ⟨b, off, e, _⟩ := nh.2 h0;cases e
  ·have := hbl b o e;omega
 ·injection e with e1 _ e3
  subst e1;subst e3;refine ⟨Nat.le_refl _, hn, by rw [uF]; exact hr.more hb, fun hp b o e => ?_⟩;obtain ⟨b', o', e', hb', -⟩ := hr.2 hp;have e0 : A = some ⟨b, o, none⟩ := e;rw [e0] at e';injection e' with e'
  injection e' with e1 _
  subst e1;exact Qp b o hp e0 hb'
theorem jW.below {w w' : World} {base size n : Nat} {e : TypeId} {v : Value} {xs : List Value} (h : jW w base e size v n xs) (hb : Below w.heap.size w w') (hB : base ≤ w.heap.size) : jW w' base e size v n xs := by
 rcases h with h | ⟨A, e1, hr, hn⟩
 ·exact .inl (own_below h hb)
 ·exact .inr ⟨A, e1, hr.below (hb.mono hB), hn⟩
def iA (pl : Int) (k : Nat) : List Int := (List.range k).map (fun i : Nat => pl + 2 + (i : Int))
theorem xj (pl : Int) (k : Nat) : iA pl (k + 1) = iA pl k ++ [pl + 2 + (k : Int)] := by unfold iA; rw [List.range_succ, List.map_append]; rfl
theorem mI (pl : Int) (k : Nat) : (iA pl k).length = k := by unfold iA; simp
theorem B5 (c : bf) (g pa N : Nat) (a : Int) (rest : List Int) (q0 : Int × W3) (w : World) (h : c.R g w) (hl : c.P.l = a :: rest) (ha : a = (pa : Int)) (hp : c.part = 2) (r fl : List (Int × W3)) (p : Int × W3) (rX : c.F.l = q0 :: r) (hF1 : c.F.l = fl ++ [p]) (hx : q0.2.ok) (hv : aC c.T c.C c.B) (hs : ai w) (Gd : c.F.l.length ≤ 1000000) (hok : dB c.T c.C c.B q0.2 = true) (O8 : c.L.l = []) (T9 : c.L.c = 0) (hgood : 1 ≤ p.2.v ∧ p.2.v ≤ aD c.T c.C c.B (aT q0.2.f).1) :
  Calls Tryz.prog 150 #[.pointer (some ⟨g, 0, none⟩)] w fun e w' => e = .returned (.bool false) ∧ ∃ L' : SL Int, L'.l = iA (aF c.T c.C c.B (aT q0.2.f).1) (3 * p.2.v.toNat) ∧ ({ c with part := 3, L := L' } : bf).R g w' ∧ bB g w.heap.size w w' := by
 obtain ⟨j0, hj, ki, jz1, kh⟩ := info_parts wV;have kV := fun W (hW : c.R g W) (hs' : ai W) => tJ c g q0.2 W hW hv hs' (by unfold W3.ok at hx; omega) (by unfold W3.ok at hx; omega);have hlast := fun W (hW : ({ c with part := 3 } : bf).R g W) => jc { c with part := 3 } g fl p W hW hF1 (by have := Gd; rw [hF1] at this; simp at this; omega);have hpl : aF c.T c.C c.B (aT q0.2.f).1 ≤ 4096 ∧ 0 ≤ aF c.T c.C c.B (aT q0.2.f).1 ∧ aD c.T c.C c.B (aT q0.2.f).1 ≤ 32 := by
  have S7 := hok;unfold dB at S7;simp only [Bool.and_eq_true, decide_eq_true_eq] at S7;have hN : aD c.T c.C c.B (aT q0.2.f).1 ≠ 0 := by
   have := hgood;omega
  obtain ⟨k, hk, hk1, hk2, hk3⟩ := kv c.T c.C c.B _ hv hN;have := hv.2;omega
 generalize hPl : aF c.T c.C c.B (aT q0.2.f).1 = pl at *;generalize hPn : aD c.T c.C c.B (aT q0.2.f).1 = pn at *;generalize hok2 : dB c.T c.C c.B q0.2 = ok at *;have iq := aa hlast;have uR := aa kV;have HS := aa hs;have HF0 := aa rX;obtain ⟨n, hn⟩ : ∃ n, c.P.l.length = n := ⟨_, rfl⟩;have hpos : 0 < n := by rw [← hn, hl]; simp
 obtain ⟨b, off, hA, hb, hbg, hc⟩ := h.2.P.at_ bI (k := 0) (a := a) (by rw [hl]; rfl);have q : w.cell? ⟨g, 3, none⟩ = some (.slice (some ⟨b, off, none⟩) n c.P.c) := by have := h.1.at (j := 3) rfl; unfold SL.v at this; rwa [hA, hn] at this
 have q7 : w.cell? ⟨g, 7, none⟩ = some (.int .i64 c.part) := h.1.at (j := 7) rfl;have qb : w.cell? ⟨b, off, none⟩ = some (.int .i64 a) := by have := hc 0 _ rfl; simpa using this
 have hgl : g < w.heap.size := h.1.2.2;have qf : ∀ o, w.frozen? ⟨g, o, none⟩ = false := h.1.2.1;have hcap := h.2.P.1;rw [hn] at hcap;have h0 : (0 : Int) < (n : Int) := by omega
 have h1 : ¬ n = 0 := by omega
 have h2 : ¬ (n : Int) = 0 := by omega
 have e0 : (n == 0) = false := by simpa using h1
 obtain ⟨TA, TN, TC, hTe⟩ : ∃ TA TN TC, (c.P.tl 1).v = .slice TA TN TC := ⟨_, _, _, rfl⟩;have hsl := fun W => bM c.P b off n hn hA oM W;rw [hTe] at hsl;have vW := aa hTe;have HA := aa hA;have Hn := aa hn;have Hl := aa hl;obtain ⟨m, hm⟩ : ∃ m, c.F.l.length = m := ⟨_, rfl⟩;have Lv : 0 < m := by rw [← hm, rX]; simp
 obtain ⟨bF, oF, Bl, Ws, LM, sF⟩ := h.2.F.at_ iG (k := 0) (a := q0) (by rw [rX]; rfl);have KY : w.cell? ⟨g, 11, none⟩ = some (.slice (some ⟨bF, oF, none⟩) m c.F.c) := by have := h.1.at (j := 11) rfl; unfold SL.v at this; rwa [Bl, hm] at this
 have r1 : w.cell? ⟨bF, oF + 1, none⟩ = some (.int .i64 q0.2.v) := by have := sF 1 _ rfl; simpa using this
 have r2 : w.cell? ⟨bF, oF + 2, none⟩ = some (.int .u32 q0.2.r) := by have := sF 2 _ rfl; simpa using this
 have r3 : w.cell? ⟨bF, oF + 3, none⟩ = some (.int .u32 q0.2.f) := by have := sF 3 _ rfl; simpa using this
 have BP : w.cell? ⟨bF, oF + 1 + 2, none⟩ = some (.int .u32 q0.2.f) := r3;have m0 : (0 : Int) < (m : Int) := by omega
 have m1 : 0 < m := Lv;have HR := aa h;have VO := aa Bl;have HmF := aa hm;clear hTe hA hc hn h hl Bl sF hm rX;rw [hp] at q7;obtain ⟨K, hK⟩ : ∃ K : Nat, p.2.v = (K : Int) := ⟨p.2.v.toNat, by omega⟩;have OL := fun W => uI p.2 W;rw [hK] at hgood OL ⊢;obtain ⟨hv1, hv2⟩ := hgood;have aeV : K ≤ 32 := by omega
 rw [Int.toNat_natCast];obtain ⟨M, hM⟩ : ∃ M, 3 * K = M := ⟨_, rfl⟩;rw [hM];have O6 : 3 * (K : Int) = (M : Int) := by omega
 have acR : M ≤ 96 := by omega
 have hM0 : 0 < M := by omega
 clear hM;have HLl := aa O8;have HLc := aa T9;clear hp hlast kV hs hx hv hPl hPn ha Gd hF1 hok hok2 O8 T9;go_enter Tryz.func150, Tryz.ntmps150;go_upto_region 16 with (first | (go_at_call 154; refine rB (uR.out _ (HR.out.below ae) (HS.out.below ae)) ?_; intro w2 hb2 aH aL hs2; (try simp at hs2); have hg2 := zL g w2; have hl2 := zL bF w2))
 have CC : Below w.heap.size w w2 := ae;have ic := aa ((HR.out.below CC).putPart 3);have qd := aa (bB.setCell ((bB.refl g w.heap.size w).of CC) (p := ⟨g, 7, none⟩) (.inl rfl) (.int .i64 3));generalize hw3 : w2.setCell ⟨g, 7, none⟩ (.int .i64 3) = w3 at ic qd ⊢;have yg := qd.out.size;have Vy := aa (wj HS.out qd.out (GW HR.out HS.out));clear hb2 aH aL hs2 hg2 hl2 hw3 CC q q7 qf KY r1 r2 r3 BP qb;have qf : ∀ o, w3.frozen? ⟨g, o, none⟩ = false := ic.out.1.2.1;have q : w3.cell? ⟨g, 3, none⟩ = some (.slice (some ⟨b, off, none⟩) n c.P.c) := by have h := ic.out.1.at (j := 3) rfl; unfold SL.v at h; rwa [HA.out, Hn.out] at h
 have q7 : w3.cell? ⟨g, 7, none⟩ = some (.int .i64 3) := ic.out.1.at (j := 7) rfl;have KY : w3.cell? ⟨g, 11, none⟩ = some (.slice (some ⟨bF, oF, none⟩) m c.F.c) := by have h := ic.out.1.at (j := 11) rfl; unfold SL.v at h; rwa [VO.out, HmF.out] at h
 obtain ⟨Ge, NZ, Jj, -, -, I9⟩ := ic.out.2.F.at_ iG (k := 0) (a := q0) (by show c.F.l[0]? = _; rw [HF0.out]; rfl);have L4 : (some (⟨Ge, NZ, none⟩ : Addr)) = some ⟨bF, oF, none⟩ := Jj.symm.trans VO.out;injection L4 with L4
 injection L4 with hA1 hA2
 subst hA1 hA2;have r3 : w3.cell? ⟨Ge, NZ + 3, none⟩ = some (.int .u32 q0.2.f) := by have := I9 3 _ rfl; simpa using this
 have BP : w3.cell? ⟨Ge, NZ + 1 + 2, none⟩ = some (.int .u32 q0.2.f) := r3;have hg3 := zL g w3;have hl3 := zL Ge w3;clear Jj I9;have Oo : (K : Int) ≥ 1 := hv1;go_wp2_with (first
  | (go_at_call 155; refine rB (iq.out _ (ic.out.below ae)) ?_; intro w4 hb4 eB fZ hs4; (try simp at hs4); have hg4 := zL g w4; have hl4 := zL Ge w4))
 have hB4 := qd.out.of (hb4.mono yg);have jr := aa hB4;have iI := aa (ic.out.below hb4);obtain ⟨aee, aed, -⟩ := hpl;have hg4 : g < w4.heap.size := hg4;clear O6 hB4 hb4 eB fZ q q7 qf KY r3 BP Oo hv1 hv2 OL
 go_loopw [92, 11] (fun i v wr => ∃ (k : Nat) (A : Option Addr) (cp : Nat), i = .int .i64 k ∧ k ≤ M ∧ aB g ({ c with part := 3, L := ⟨A, cp, iA pl k⟩ } : bf).cs wr ∧ jW wr w4.heap.size 52 1 (.slice A k cp) k ((iA pl k).map (Value.int .i64)) ∧ bB g w4.heap.size w4 wr ∧ (0 < k → wr.ownsRow w4.heap.size 52 1 (.slice A k cp) k ((iA pl k).map (Value.int .i64)))) (fun i _ _ => M - (intOf i).toNat)
 case atStart =>
  refine ⟨0, c.L.A, 0, rfl, by omega, ?_, .inr ⟨c.L.A, rfl, Rd.nil _ _ _ _, fun _ => rfl⟩, bB.refl _ _ _, fun h => absurd h (Nat.lt_irrefl _)⟩;have h := iI.out.1;unfold bf.cs SL.v at h ⊢;simp only [HLl.out, HLc.out] at h;exact h
 case round =>
  obtain ⟨k, A, cp, rfl, hk, yw, hown, yT, Ab⟩ := hrel;have Vd := aa Ab;clear Ab;have E7 := yT.size;have W9 := aa yw;have dR := aa hown;have MF := aa yT;have x8 : wr.cell? ⟨g, 8, none⟩ = some (.slice A k cp) := by have h := yw.at (j := 8) rfl; unfold SL.v at h; rwa [mI] at h
  have xf := yw.2.1;have hgr : g < wr.heap.size := yw.2.2;clear yw hown yT;by_cases hlt : k < M
  ·have aen : (k : Int) < (M : Int) := by omega
   go_wp2_with (first
    | (at_builtin; refine lU rfl _ _ 77 rfl w4.heap.size 52 j0 _ 1 8 Tryz.underlying77 hj ki jz1 kh rfl dM (.slice A k cp) k ((iA pl k).map (Value.int .i64)) rfl (dR.out.below ae E7) wr.heap.size 1 [.int .i64 (pl + 2 + k)] rfl (tH (by go_simp)) (by simp [Value.oneCell']) (by unfold maxLen; omega) oM (by simp; omega) w4.heap.size wr ae (Nat.le_refl _) ?_; intro v' w6 aW hb6 lL; obtain ⟨A6, Md, rfl, aeC, TI⟩ := aX aW; have y8 := cT hb6 x8 hg4; have yf : w6.frozen? ⟨g, 8, none⟩ = false := (hb6.frozen (p := ⟨g, 8, none⟩) hg4).trans (xf 8); have hs6 := hb6.size; have pN := zL g w6; have Hb6 := aa hb6; have D5 := aa aW; clear hb6 aW))
   have hst := (W9.out.belowB Hb6.out hg4).store (o := 8) (by simp [bf.cs]) (.slice A6 (k + 1) Md);refine ⟨⟨k + 1, A6, Md, by go_num, by omega, ?_, ?_, ?_, fun _ => ?_⟩, by simp [intOf]; omega⟩
   ·have e : ({ c with part := 3, L := ⟨A6, Md, iA pl (k + 1)⟩ } : bf).cs = ({ c with part := 3, L := ⟨A, cp, iA pl k⟩ } : bf).cs.set 8 (.slice A6 (k + 1) Md) := by
     unfold bf.cs SL.v;simp [mI]
    rw [e];exact hst
   ·rw [xj, List.map_append];exact .inl (Dv D5.out hg4)
   ·exact bB.setCell (MF.out.of Hb6.out) (.inl rfl) _
   ·rw [xj, List.map_append];exact Dv D5.out hg4
  ·obtain rfl : M = k := by omega
   have HLR : Hid ((⟨A, cp, iA pl M⟩ : SL Int).R c.lo g 1 ny wr) := aa (jW.R (base := w4.heap.size) (by rw [mI]; exact dR.out) iI.out.2.z E7 (fun b o hp e hb => by
    obtain ⟨A', cap, e2, _, hbl⟩ := aX (Vd.out hM0);injection e2 with e2 _ _
    subst e2;have := hbl b o e;omega))
   have O0 := iI.out.2.but MF.out;have WY : Hid (({ c with part := 3, L := ⟨A, cp, iA pl M⟩ } : bf).R g wr) := aa ⟨W9.out, O0.P, O0.S, O0.H, HLR.out, O0.A, O0.D, O0.F, O0.z⟩;have Bo := aa (jr.out.trans (MF.out.mono jr.out.size));go_wp2_with fail;go_ret;exact ⟨rfl, ⟨A, cp, iA pl M⟩, rfl, WY.out, Bo.out⟩
structure RC where
 P : List Int
 S : List Int
 H : List Int
 step : Int
 part : Int
 L : List Int
 A : List AS
 D : List Int
 F : List (Int × W3)
 ld : Bool
 en : Bool
def bf.p (v : bf) : RC := ⟨v.P.l, v.S.l, v.H.l, v.step, v.part, v.L.l, v.A.l, v.D.l, v.F.l, v.ld, v.en⟩
def stA (a : Int) (x : W3) : AS := ⟨3, a, 0, 0, 0, x.v, x.r, x.f⟩
def dw (F : List (Int × W3)) : W3 := (F.getLastD (0, z3)).2
def headW (F : List (Int × W3)) : W3 := (F.headD (0, z3)).2
section
variable (T C B : Int) (N : Nat)
def bG (c : RC) : Bool × RC := match c.P with
 | [] => (true, c)
 | a :: P' =>
  if c.part = 0 then (false, { c with F := [], L := [a], part := 1 })
  else if c.part = 1 ∧ dB T C B (dw c.F) = true then (false, { c with L := [aF T C B (aT (dw c.F).f).1, aF T C B (aT (dw c.F).f).1 + 1], part := 2 })
  else if c.part = 2 ∧ 1 ≤ (dw c.F).v ∧ (dw c.F).v ≤ aD T C B (aT (headW c.F).f).1 then (false, { c with L := iA (aF T C B (aT (headW c.F).f).1) (3 * (dw c.F).v.toNat), part := 3 })
  else if (headW c.F).f = 0 then (false, { c with P := P', part := 0 })
  else (false, { c with A := c.A ++ [stA a (aj T C B (cK N c.F) a.toNat)], D := c.D ++ [a], P := P', part := 0 })
def jD (c : RC) : Bool × RC := (true, { c with A := c.A ++ gZ c.D, D := [] })
def cm (c : RC) : Bool × RC := match c.S with
 | [] => (true, c)
 | a :: S' =>
  if c.part = 0 then (false, { c with F := [], L := [a], part := 1 })
  else if bD (dw c.F) = true then (false, { c with A := c.A ++ [stA a (ei (dw c.F))], D := c.D ++ [a], S := S', part := 0 })
  else (false, { c with S := S', part := 0 })
def dE (c : RC) : Bool × RC := match c.H with
 | [] => (true, c)
 | a :: H' =>
  if c.part = 0 then (false, { c with F := [], L := [a], part := 1 })
  else if (!ql (dw c.F) z3) = true then (false, { c with A := c.A ++ [stA a z3], D := c.D ++ [a], H := H', part := 0 })
  else (false, { c with H := H', part := 0 })
def bH (c : RC) : Bool × RC := if c.step = 0 then bG T C B N c else if c.step = 2 then cm c else if c.step = 3 then dE c else jD c
structure RC.ok (c : RC) : Prop where
 st : 0 ≤ c.step ∧ c.step ≤ 5
 pt : 0 ≤ c.part ∧ c.part ≤ 3
 FL : c.F.length + c.L.length ≤ 200
 Am : c.A.length ≤ 10000
 DP : c.D.length + c.P.length + c.S.length + c.H.length ≤ 9000
 Fk : ∀ q ∈ c.F, 0 ≤ q.1 ∧ q.1 < (N : Int) ∧ q.2.ok
 Lk : ∀ a ∈ c.L, 0 ≤ a ∧ a < (N : Int)
 Pk : ∀ a ∈ c.P, iY T C B a = true ∧ 0 ≤ a ∧ a < (N : Int)
 Sk : ∀ a ∈ c.S, 0 ≤ a ∧ a < (N : Int)
 Hk : ∀ a ∈ c.H, 0 ≤ a ∧ a < (N : Int)
 e1 : c.step = 0 → c.part = 1 → c.F.length + c.L.length = 1
 e2 : c.step = 0 → c.part = 2 → c.F.length + c.L.length = 3 ∧ ∃ q0 r, c.F = q0 :: r ∧ dB T C B q0.2 = true
 e3 : c.step = 0 → c.part = 3 → ∃ q0 r, c.F = q0 :: r ∧ ¬ q0.2.f = 0
 e4 : (c.step = 2 ∨ c.step = 3) → ¬ c.part = 0 → c.part = 1 ∧ c.F.length + c.L.length = 1
 z0 : ¬ c.part = 0 → (c.step = 0 ∧ c.P ≠ []) ∨ (c.step = 2 ∧ c.S ≠ []) ∨ (c.step = 3 ∧ c.H ≠ [])
 ldL : c.ld = true → c.L ≠ [] ∧ c.A = []
end
theorem Dl {α : Type} {l : List α} {n : Nat} (h : l.length = n + 1) : ∃ fl p, l = fl ++ [p] := by
 refine ⟨l.take n, l[n]'(by omega), ?_⟩;have := List.take_append_drop n l;rw [List.drop_eq_getElem_cons oM, List.drop_of_length_le oM] at this;exact this.symm
theorem B7 {α : Type} {l : List α} (h : l.length = 1) : ∃ q, l = [q] := by
 match l, h with
 | [q], _ => exact ⟨q, rfl⟩
section
variable {T C B : Int} {N : Nat} {c : RC}
theorem RC.ok.Fm (h : c.ok T C B N) : c.F.length ≤ 1000 := by have := h.FL; omega
theorem RC.ok.Dm (h : c.ok T C B N) : c.D.length ≤ 10000 := by have := h.DP; omega
theorem RC.ok.p1 (h : c.ok T C B N) (h0 : c.step = 0) (h1 : c.part = 1) (hL : c.L = []) : ∃ q0, c.F = [q0] := by
 have := h.e1 h0 h1;rw [hL] at this;exact B7 (by simpa using this)
theorem RC.ok.p2 (h : c.ok T C B N) (h0 : c.step = 0) (h1 : c.part = 2) (hL : c.L = []) : ∃ q0 r fl p, c.F = q0 :: r ∧ c.F = fl ++ [p] ∧ dB T C B q0.2 = true := by
 obtain ⟨h2, q0, r, h3, h4⟩ := h.e2 h0 h1;rw [hL] at h2;obtain ⟨fl, p, h5⟩ := Dl (n := 2) (by simpa using h2);exact ⟨q0, r, fl, p, h3, h5, h4⟩
theorem RC.ok.p3 (h : c.ok T C B N) (h0 : c.step = 0) (h1 : c.part = 3) : ∃ q0 r, c.F = q0 :: r ∧ ¬ q0.2.f = 0 := h.e3 h0 h1
theorem RC.ok.p4 (h : c.ok T C B N) (h0 : c.step = 2 ∨ c.step = 3) (h1 : ¬ c.part = 0) (hL : c.L = []) : ∃ fl p, c.F = fl ++ [p] := by
 have := (h.e4 h0 h1).2;rw [hL] at this;exact Dl (n := 0) (by simpa using this)
end
def bf.tight (v : bf) : Prop := (v.part = 1 ∨ v.part = 2) → v.L.c = v.L.l.length
def ez (T C B : Int) (N : Nat) (v : bf) (g : Nat) (w : World) (b : Bool) (w' : World) : Prop := ∃ v' : bf, (b, v'.p) = bH T C B N v.p ∧ (v'.T = v.T ∧ v'.C = v.C ∧ v'.B = v.B ∧ v'.lo = v.lo) ∧ v'.tight ∧ v'.R g w' ∧ bB g w.heap.size w w'
theorem iw (fl : List (Int × W3)) (p : Int × W3) : dw (fl ++ [p]) = p.2 := by unfold dw; rw [List.getLastD_eq_getLast?, List.getLast?_append]; rfl
section
variable {N : Nat} {v : bf} {g : Nat} {w : World}
theorem Bv (h : v.R g w) (hk : v.p.ok v.T v.C v.B N) (hv : aC v.T v.C v.B) (hs : ai w) (hN : ah v.T v.C v.B 7 = (N : Int)) (lM : 0 < N) (ht : v.tight) (hL : v.L.l = []) (h0 : v.step = 0) :
  Calls Tryz.prog 150 #[.pointer (some ⟨g, 0, none⟩)] w fun e w' => ∃ b, e = .returned (.bool b) ∧ ez v.T v.C v.B N v g w b w' := by
 have hT : bH v.T v.C v.B N v.p = bG v.T v.C v.B N v.p := by
  unfold bH;rw [if_pos (show v.p.step = 0 from h0)]
 unfold ez;rw [hT];cases hP : v.P.l with
 | nil =>
  refine (EH v g w h hP).mono ?_;rintro e w' ⟨rfl, rfl⟩;refine ⟨true, rfl, v, ?_, ⟨rfl, rfl, rfl, rfl⟩, ht, h, bB.refl _ _ _⟩;unfold bG;rw [show v.p.P = [] from hP]
 | cons a P' =>
  have Bj : v.p.P = a :: P' := hP;obtain ⟨hm, ha0, haN⟩ := hk.Pk a (by rw [Bj]; exact List.mem_cons_self ..);obtain ⟨pa, vI⟩ : ∃ pa : Nat, a = (pa : Int) := ⟨a.toNat, by omega⟩;have qj : v.A.l.length ≤ 1000000 := Nat.le_trans hk.Am dM;have hD6 : v.D.l.length ≤ 1000000 := Nat.le_trans hk.Dm dM;have O9 : v.F.l.length ≤ 1000000 := Nat.le_trans hk.Fm dM;have hpt : 0 ≤ v.part ∧ v.part ≤ 3 := hk.pt;by_cases p0 : v.part = 0
  ·refine (BV v g a P' w h hP p0).mono ?_;rintro e w' ⟨rfl, L', h1, h2, h3, h4⟩;refine ⟨false, rfl, { v with F := SL.nil (Int × W3), L := L', part := 1 }, ?_, ⟨rfl, rfl, rfl, rfl⟩, ?_, h3, h4⟩
   ·unfold bG;rw [Bj];simp only;rw [if_pos (show v.p.part = 0 from p0)];simp only [bf.p, SL.nil, h1, hP]
   ·intro _;show L'.c = L'.l.length;rw [h1, h2];rfl
  by_cases p1 : v.part = 1
  ·obtain ⟨q0, hF⟩ := hk.p1 h0 p1 hL;have DN : v.F.l = [q0] := hF;have hq : q0.2.ok := (hk.Fk q0 (by rw [hF]; exact List.mem_cons_self ..)).2.2;have hl : dw v.p.F = q0.2 := by rw [hF]; exact iw [] q0
   have LF : headW v.p.F = q0.2 := by rw [hF]; rfl
   cases hw : dB v.T v.C v.B q0.2 with
   | true =>
    refine (EG v g a P' [] q0 w h hP p1 DN sM hq hv hs hw).mono ?_;rintro e w' ⟨rfl, L', h1, h2, h3, h4⟩;refine ⟨false, rfl, { v with L := L', part := 2 }, ?_, ⟨rfl, rfl, rfl, rfl⟩, ?_, h3, h4⟩
    ·unfold bG;rw [Bj];simp only;rw [if_neg (show ¬ v.p.part = 0 from p0), hl, if_pos ⟨p1, hw⟩];simp only [bf.p, h1, hP]
    ·intro _;show L'.c = L'.l.length;rw [h1, h2];rfl
   | false =>
    have hne : ¬ (v.p.part = 1 ∧ dB v.T v.C v.B (dw v.p.F) = true) := (by rw [hl, hw]; simp);have hne2 : ¬ (v.p.part = 2 ∧ 1 ≤ (dw v.p.F).v ∧ (dw v.p.F).v ≤ aD v.T v.C v.B (aT (headW v.p.F).f).1) := by
     have : v.p.part = 1 := p1;omega
    by_cases f0 : q0.2.f = 0
    ·refine (BU v g a P' q0 w h hP p1 DN hq hv hs f0).mono ?_;rintro e w' ⟨rfl, h3, h4⟩;refine ⟨false, rfl, { v with P := v.P.tl 1, part := 0 }, ?_, ⟨rfl, rfl, rfl, rfl⟩, ?_, h3, h4⟩
     ·unfold bG;rw [Bj];simp only;rw [if_neg (show ¬ v.p.part = 0 from p0), if_neg hne, if_neg hne2, LF, if_pos f0];simp only [bf.p, SL.tl, hP, List.tail_cons]
     ·intro h;rcases h with h | h <;> simp at h
    ·refine (B4 v g pa N a P' q0 w h hP vI p1 DN qj hD6 hv hs hN lM (by rw [← vI]; exact hm) oM hk.Fk O9 f0 hw).mono ?_;rintro e w' ⟨rfl, A', D', h1, h2, h3, h4⟩;refine ⟨false, rfl, { v with A := A', D := D', P := v.P.tl 1, part := 0 }, ?_, ⟨rfl, rfl, rfl, rfl⟩, ?_, h3, h4⟩
     ·unfold bG;rw [Bj];simp only;rw [if_neg (show ¬ v.p.part = 0 from p0), if_neg hne, if_neg hne2, LF, if_neg f0];simp only [bf.p, SL.tl, hP, h1, h2, stA, List.tail_cons, vI, Int.toNat_natCast]
     ·intro h;rcases h with h | h <;> simp at h
  have hne : ¬ (v.p.part = 1 ∧ dB v.T v.C v.B (dw v.p.F) = true) := fun h => p1 h.1;by_cases p2 : v.part = 2
  ·obtain ⟨q0, r, fl, p, hF, hF1, hw⟩ := hk.p2 h0 p2 hL;have DN : v.F.l = q0 :: r := hF;have Ub : v.F.l = fl ++ [p] := hF1;have hq : q0.2.ok := (hk.Fk q0 (by rw [hF]; exact List.mem_cons_self ..)).2.2;have hl : dw v.p.F = p.2 := by rw [hF1]; exact iw fl p
   have LF : headW v.p.F = q0.2 := by rw [hF]; rfl
   have f0 : ¬ q0.2.f = 0 := by
    intro e;unfold dB at hw;rw [e] at hw;simp at hw
   by_cases hg : 1 ≤ p.2.v ∧ p.2.v ≤ aD v.T v.C v.B (aT q0.2.f).1
   ·refine (B5 v g pa N a P' q0 w h hP vI p2 r fl p DN Ub hq hv hs O9 hw hL (by rw [ht (.inr p2), hL]; rfl) hg).mono ?_;rintro e w' ⟨rfl, L', h1, h3, h4⟩;refine ⟨false, rfl, { v with part := 3, L := L' }, ?_, ⟨rfl, rfl, rfl, rfl⟩, ?_, h3, h4⟩
    ·unfold bG;rw [Bj];simp only;rw [if_neg (show ¬ v.p.part = 0 from p0), if_neg hne, hl, LF, if_pos ⟨p2, hg.1, hg.2⟩];simp only [bf.p, h1, hP]
    ·intro h;rcases h with h | h <;> simp at h
   ·refine (BZ v g pa N a P' q0 w h hP vI p2 r fl p DN Ub qj hD6 hv hs hN lM (by rw [← vI]; exact hm) oM hk.Fk O9 f0 hg).mono ?_;rintro e w' ⟨rfl, A', D', h1, h2, h3, h4⟩;refine ⟨false, rfl, { v with A := A', D := D', P := v.P.tl 1, part := 0 }, ?_, ⟨rfl, rfl, rfl, rfl⟩, ?_, h3, h4⟩
    ·unfold bG;rw [Bj];simp only;rw [if_neg (show ¬ v.p.part = 0 from p0), if_neg hne, hl, LF, if_neg (fun h => hg h.2), if_neg f0];simp only [bf.p, SL.tl, hP, h1, h2, stA, List.tail_cons, vI, Int.toNat_natCast]
    ·intro h;rcases h with h | h <;> simp at h
  ·have p3 : v.part = 3 := by omega
   obtain ⟨q0, r, hF, f0⟩ := hk.p3 h0 p3;have DN : v.F.l = q0 :: r := hF;have LF : headW v.p.F = q0.2 := by rw [hF]; rfl
   have hne2 : ¬ (v.p.part = 2 ∧ 1 ≤ (dw v.p.F).v ∧ (dw v.p.F).v ≤ aD v.T v.C v.B (aT (headW v.p.F).f).1) := fun h => p2 h.1;refine (BW v g pa N a P' q0 w h hP vI p3 r DN qj hD6 hv hs hN lM (by rw [← vI]; exact hm) oM hk.Fk O9 f0).mono ?_;rintro e w' ⟨rfl, A', D', h1, h2, h3, h4⟩;refine ⟨false, rfl, { v with A := A', D := D', P := v.P.tl 1, part := 0 }, ?_, ⟨rfl, rfl, rfl, rfl⟩, ?_, h3, h4⟩
   ·unfold bG;rw [Bj];simp only;rw [if_neg (show ¬ v.p.part = 0 from p0), if_neg hne, if_neg hne2, LF, if_neg f0];simp only [bf.p, SL.tl, hP, h1, h2, stA, List.tail_cons, vI, Int.toNat_natCast]
   ·intro h;rcases h with h | h <;> simp at h
theorem zj (h : v.R g w) (hk : v.p.ok v.T v.C v.B N) (ht : v.tight) (hL : v.L.l = []) (h0 : v.step = 2) :
  Calls Tryz.prog 152 #[.pointer (some ⟨g, 0, none⟩)] w fun e w' => ∃ b, e = .returned (.bool b) ∧ ez v.T v.C v.B N v g w b w' := by
 have hT : bH v.T v.C v.B N v.p = cm v.p := by
  unfold bH;have e : v.p.step = 2 := h0;rw [e];rfl
 refine ED g w ?_;unfold ez;rw [hT];have qj : v.A.l.length ≤ 1000000 := Nat.le_trans hk.Am dM;have hD6 : v.D.l.length ≤ 1000000 := Nat.le_trans hk.Dm dM;cases hP : v.S.l with
 | nil =>
  refine (FA v g w h hP).mono ?_;rintro e w' ⟨rfl, rfl⟩;refine ⟨true, rfl, v, ?_, ⟨rfl, rfl, rfl, rfl⟩, ht, h, bB.refl _ _ _⟩;unfold cm;rw [show v.p.S = [] from hP]
 | cons a P' =>
  have Bj : v.p.S = a :: P' := hP;by_cases p0 : v.part = 0
  ·refine (CL v g a P' w h hP p0).mono ?_;rintro e w' ⟨rfl, L', h1, h2, h3, h4⟩;refine ⟨false, rfl, { v with F := SL.nil (Int × W3), L := L', part := 1 }, ?_, ⟨rfl, rfl, rfl, rfl⟩, ?_, h3, h4⟩
   ·unfold cm;rw [Bj];simp only;rw [if_pos (show v.p.part = 0 from p0)];simp only [bf.p, SL.nil, h1, hP]
   ·intro _;show L'.c = L'.l.length;rw [h1, h2];rfl
  ·obtain ⟨fl, p, hF⟩ := hk.p4 (.inl h0) p0 hL;have DN : v.F.l = fl ++ [p] := hF;have hq : p.2.ok := (hk.Fk p (by rw [hF]; simp)).2.2;have hl : dw v.p.F = p.2 := by rw [hF]; exact iw fl p
   have hfl : fl.length ≤ 1000000 := by
    have := hk.Fm;rw [hF, List.length_append] at this;omega
   cases hu : bD p.2 with
   | true =>
    refine (AD v g a P' fl p w h hP p0 DN hfl hq qj hD6 hu).mono ?_;rintro e w' ⟨rfl, A', D', h1, h2, h3, h4⟩;refine ⟨false, rfl, { v with A := A', D := D', S := v.S.tl 1, part := 0 }, ?_, ⟨rfl, rfl, rfl, rfl⟩, ?_, h3, h4⟩
    ·unfold cm;rw [Bj];simp only;rw [if_neg (show ¬ v.p.part = 0 from p0), hl, if_pos hu];simp only [bf.p, SL.tl, hP, h1, h2, stA, List.tail_cons]
    ·intro h;rcases h with h | h <;> simp at h
   | false =>
    refine (CK v g a P' fl p w h hP p0 DN hfl hq hu).mono ?_;rintro e w' ⟨rfl, h3, h4⟩;refine ⟨false, rfl, { v with S := v.S.tl 1, part := 0 }, ?_, ⟨rfl, rfl, rfl, rfl⟩, ?_, h3, h4⟩
    ·unfold cm;rw [Bj];simp only;rw [if_neg (show ¬ v.p.part = 0 from p0), hl, if_neg (by rw [hu]; decide)];simp only [bf.p, SL.tl, hP, List.tail_cons]
    ·intro h;rcases h with h | h <;> simp at h
theorem Bu (h : v.R g w) (hk : v.p.ok v.T v.C v.B N) (ht : v.tight) (hL : v.L.l = []) (h0 : v.step = 3) :
  Calls Tryz.prog 153 #[.pointer (some ⟨g, 0, none⟩)] w fun e w' => ∃ b, e = .returned (.bool b) ∧ ez v.T v.C v.B N v g w b w' := by
 have hT : bH v.T v.C v.B N v.p = dE v.p := by
  unfold bH;have e : v.p.step = 3 := h0;rw [e];rfl
 refine GV g w ?_;unfold ez;rw [hT];have qj : v.A.l.length ≤ 1000000 := Nat.le_trans hk.Am dM;have hD6 : v.D.l.length ≤ 1000000 := Nat.le_trans hk.Dm dM;cases hP : v.H.l with
 | nil =>
  refine (FB v g w h hP).mono ?_;rintro e w' ⟨rfl, rfl⟩;refine ⟨true, rfl, v, ?_, ⟨rfl, rfl, rfl, rfl⟩, ht, h, bB.refl _ _ _⟩;unfold dE;rw [show v.p.H = [] from hP]
 | cons a P' =>
  have Bj : v.p.H = a :: P' := hP;by_cases p0 : v.part = 0
  ·refine (CN v g a P' w h hP p0).mono ?_;rintro e w' ⟨rfl, L', h1, h2, h3, h4⟩;refine ⟨false, rfl, { v with F := SL.nil (Int × W3), L := L', part := 1 }, ?_, ⟨rfl, rfl, rfl, rfl⟩, ?_, h3, h4⟩
   ·unfold dE;rw [Bj];simp only;rw [if_pos (show v.p.part = 0 from p0)];simp only [bf.p, SL.nil, h1, hP]
   ·intro _;show L'.c = L'.l.length;rw [h1, h2];rfl
  ·obtain ⟨fl, p, hF⟩ := hk.p4 (.inr h0) p0 hL;have DN : v.F.l = fl ++ [p] := hF;have hq : p.2.ok := (hk.Fk p (by rw [hF]; simp)).2.2;have hl : dw v.p.F = p.2 := by rw [hF]; exact iw fl p
   have hfl : fl.length ≤ 1000000 := by
    have := hk.Fm;rw [hF, List.length_append] at this;omega
   cases hu : (!ql p.2 z3) with
   | true =>
    refine (AE v g a P' fl p w h hP p0 DN hfl hq qj hD6 hu).mono ?_;rintro e w' ⟨rfl, A', D', h1, h2, h3, h4⟩;refine ⟨false, rfl, { v with A := A', D := D', H := v.H.tl 1, part := 0 }, ?_, ⟨rfl, rfl, rfl, rfl⟩, ?_, h3, h4⟩
    ·unfold dE;rw [Bj];simp only;rw [if_neg (show ¬ v.p.part = 0 from p0), hl, if_pos hu];simp only [bf.p, SL.tl, hP, h1, h2, stA, List.tail_cons]
    ·intro h;rcases h with h | h <;> simp at h
   | false =>
    refine (CM v g a P' fl p w h hP p0 DN hfl hq hu).mono ?_;rintro e w' ⟨rfl, h3, h4⟩;refine ⟨false, rfl, { v with H := v.H.tl 1, part := 0 }, ?_, ⟨rfl, rfl, rfl, rfl⟩, ?_, h3, h4⟩
    ·unfold dE;rw [Bj];simp only;rw [if_neg (show ¬ v.p.part = 0 from p0), hl, if_neg (by rw [hu]; decide)];simp only [bf.p, SL.tl, hP, List.tail_cons]
    ·intro h;rcases h with h | h <;> simp at h
theorem vX (h : v.R g w) (hk : v.p.ok v.T v.C v.B N) (ht : v.tight) (h0 : v.step = 1 ∨ v.step = 4) :
  Calls Tryz.prog 151 #[.pointer (some ⟨g, 0, none⟩)] w fun e w' => ∃ b, e = .returned (.bool b) ∧ ez v.T v.C v.B N v g w b w' := by
 have hT : bH v.T v.C v.B N v.p = jD v.p := by
  unfold bH;rcases h0 with h0 | h0
  ·have e : v.p.step = 1 := h0;rw [e];rfl
  ·have e : v.p.step = 4 := h0;rw [e];rfl
 unfold ez;rw [hT];have qj : v.A.l.length ≤ 100000 := Nat.le_trans hk.Am dM;have hD6 : v.D.l.length ≤ 100000 := Nat.le_trans hk.Dm dM;refine (KX v g w h qj hD6).mono ?_;rintro e w' ⟨rfl, A', h1, h3, h4⟩;refine ⟨true, rfl, { v with A := A', D := SL.nil Int }, ?_, ⟨rfl, rfl, rfl, rfl⟩, ht, h3, h4⟩;simp only [jD, bf.p, SL.nil, h1]
end
end Go.Proofs.YtapjfhbonfehpaaGreatDoor
