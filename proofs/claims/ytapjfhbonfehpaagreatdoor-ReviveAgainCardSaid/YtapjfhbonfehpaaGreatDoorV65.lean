/- Package desc: Read. -/
import Derived.Deep.DeepCutAuto
import Derived.Test.YtapjfhbonfehpaaGreatDoorV17
import Derived.Test.YtapjfhbonfehpaaGreatDoorV18
import Derived.Test.YtapjfhbonfehpaaGreatDoorV63
set_option linter.unusedSimpArgs false
set_option linter.unusedVariables false
set_option maxRecDepth 100000
set_option maxHeartbeats 40000000
namespace Go.Proofs.YtapjfhbonfehpaaGreatDoor
open Go.RowKit
theorem xI {w : World} {B0 size n C o : Nat} {A : Option Addr} {xs : List Value} (h : Rd w B0 size A n xs) (hne : ∀ b off, A = some ⟨b, off, none⟩ → C ≠ b) (x : Value) : Rd (w.setCell ⟨C, o, none⟩ x) B0 size A n xs := by
 refine ⟨h.1, fun hn => ?_⟩;obtain ⟨b, off, e, hB, hc⟩ := h.2 hn;refine ⟨b, off, e, hB, fun j u hu => ?_⟩;rw [World.cell?_setCell_other _ _ _ _ (by intro e3; injection e3 with e3 _; exact hne b off e e3)];exact hc j u hu
theorem KS {w : World} {size n C : Nat} {A : Option Addr} {xs : List Value} (h : Rd w w.heap.size size A n xs) (hne : ∀ b off, A = some ⟨b, off, none⟩ → C ≠ b) (x0 x1 x2 x3 : Value) :
  Rd ((((w.setCell ⟨C, 0, none⟩ x0).setCell ⟨C, 1, none⟩ x1).setCell ⟨C, 2, none⟩ x2).setCell ⟨C, 3, none⟩ x3) ((((w.setCell ⟨C, 0, none⟩ x0).setCell ⟨C, 1, none⟩ x1).setCell ⟨C, 2, none⟩ x2).setCell ⟨C, 3, none⟩ x3).heap.size size A n xs := by
 have e : ((((w.setCell ⟨C, 0, none⟩ x0).setCell ⟨C, 1, none⟩ x1).setCell ⟨C, 2, none⟩ x2).setCell ⟨C, 3, none⟩ x3).heap.size = w.heap.size := by simp
 rw [e];exact xI (xI (xI (xI h hne x0) hne x1) hne x2) hne x3
theorem ui : (Tryz.prog.info? 58).map (fun i => (i.zero, i.size, i.bytes)) = some (some (.agg #[.int .i64 0, .int .i64 0, .int .u32 0, .int .u32 0, .int .i64 0, .bool false]), 6, 40) := by kernel_rfl
theorem aB.under {B B0 : Nat} {cs : List Value} {w w' : World} (h : aB B cs w) (hb : Below B0 w w') (hlt : B < B0) : aB B cs w' := by
 obtain ⟨h1, h2, h3⟩ := h;exact ⟨fun j u hu => (hb.cell (p := ⟨B, j, none⟩) hlt).trans (h1 j u hu), fun o => (hb.frozen (p := ⟨B, o, none⟩) hlt).trans (h2 o), Nat.lt_of_lt_of_le h3 hb.size⟩
theorem xN {w : World} {base size n cap : Nat} {e : TypeId} {A : Option Addr} {xs : List Value} (h : w.ownsRow base e size (.slice A n cap) n xs) : cap ≤ maxLen := by
 obtain ⟨_, h2⟩ := h;rcases h2 with ⟨h, -⟩ | ⟨g, cap', cur, h, _, _, _, hcm, _⟩
 ·injection h with _ _ h
  subst h;exact Nat.zero_le _
 ·injection h with _ _ h
  subst h;exact hcm
theorem G5 {w : World} {base size n cap : Nat} {e : TypeId} {A : Option Addr} {xs : List Value} (h : w.ownsRow base e size (.slice A n cap) n xs) : Rd w w.heap.size size A n xs := by
 obtain ⟨A', cap', e1, hr⟩ := Rd.of_own h;injection e1 with e1
 subst e1;exact hr
theorem JO (a : Addr) (cp : Nat) (w : World) : (Instr.arrayAt 105 (.slice (some a) 3 cp)).run Tryz.prog w = .ok (.pointer (some a)) w := by kernel_rfl
theorem Rf {w : World} {b : Nat} {e : En} (h0 : w.cell? ⟨b, 0, none⟩ = some (.int .i64 e.a)) (h1 : w.cell? ⟨b, 1, none⟩ = some (.int .i64 e.o.v)) (h2 : w.cell? ⟨b, 2, none⟩ = some (.int .u32 e.o.r)) (h3 : w.cell? ⟨b, 3, none⟩ = some (.int .u32 e.o.f)) (h4 : w.cell? ⟨b, 4, none⟩ = some (.int .i64 e.n)) (h5 : w.cell? ⟨b, 5, none⟩ = some (.bool e.w)) :
  Rd w w.heap.size 6 (some ⟨b, 0, none⟩) 1 (ec e) := ⟨rfl, fun _ => ⟨b, 0, rfl, cB h0, fun j u hu => by
 rw [Nat.zero_add]
 match j, hu with
 | 0, hu => injection hu with hu; subst hu; exact h0
 | 1, hu => injection hu with hu; subst hu; exact h1
 | 2, hu => injection hu with hu; subst hu; exact h2
 | 3, hu => injection hu with hu; subst hu; exact h3
 | 4, hu => injection hu with hu; subst hu; exact h4
 | 5, hu => injection hu with hu; subst hu; exact h5
 | j + 6, hu => simp [ec] at hu⟩⟩
theorem yD (e : En) : ∀ u ∈ ec e, u.oneCell' = true := by
 intro u hu;simp [ec] at hu;rcases hu with rfl | rfl | rfl | rfl | rfl | rfl <;> rfl
theorem qW : ∀ {ws : List W3} {p k : Nat} {es : List En}, dQ ws p k = some es → es.length = k
 | _, _, 0, es, h => by
  simp only [dQ, Option.some.injEq] at h;subst h;rfl
 | ws, p, k + 1, es, h => by
  unfold dQ at h;cases h1 : dQ ws p k with
  | none => rw [h1] at h; cases h
  | some es' =>
   rw [h1] at h;simp only [] at h;split at h
   ·injection h with h
    subst h;simp [qW h1]
   ·cases h
theorem uL : ∀ {ws : List W3} {p k : Nat} (j : Nat), dQ ws p k = none → dQ ws p (k + j) = none
 | _, _, _, 0, h => h
 | ws, p, k, j + 1, h => by
  rw [← Nat.add_assoc];unfold dQ;rw [uL j h]
theorem Ez (T C B who N : Int) (b n cap p : Nat) (s c : W3) (ws : List W3) (w : World) (hv : aC T C B) (hs : ai w) (h0 : -1000 ≤ who) (h1 : who ≤ 1000) (hM : Mem b ws w) (hl : ws.length = n) (hnm : n ≤ 1000000) (hcap : n ≤ cap) (hok : ∀ x ∈ ws, x.ok)
  (hn : ah T C B 7 ≤ n) (hP : aF T C B who = (p : Int)) (hN : aD T C B who = N) (lM : (N == 0) = false) (hN1 : 0 < N) (yS : N ≤ 32) (hpn : (p : Int) + 2 + 3 * N ≤ n) (hsw : ws[p]? = some s) (hcw : ws[p + 1]? = some c) (hf : mF s c N = true) :
  Calls Tryz.prog 46 #[(.agg #[.int .i64 T, .int .i64 C, .int .i64 B]), .slice (some ⟨b, 0, none⟩) n cap, .int .i64 who] w fun e w' => mO who (match dQ ws p c.v.toNat with | none => none | some es => if eu T C B who s.r s.v es = 0 then some (s.r, s.v, es) else none) w e w' := by
 have hp := hs.pos;have hb := hM.2.2;obtain ⟨Q, hQ⟩ : ∃ Q : Ending → World → Prop, Q = mO who (match dQ ws p c.v.toNat with | none => none | some es => if eu T C B who s.r s.v es = 0 then some (s.r, s.v, es) else none) w := ⟨_, rfl⟩;rw [← hQ];have HQ := aa hQ;unfold mF at hf;simp only [Bool.and_eq_true, decide_eq_true_eq] at hf;obtain ⟨⟨⟨⟨⟨a1, a2⟩, a3⟩, a4⟩, a5⟩, a6⟩ := hf;have hne := sD c ⟨c.v, 0, 0⟩;rw [a6] at hne;simp only [Bool.not_true] at hne;have a3' : (s.f != 0) = false := by simpa using a3
 have Hne := aa hne;clear a3 a6 hne;have HP := aa hP;have HN := aa hN;have HM := aa hM;have Hl := aa hl;have pd := aa hok;have Hsw := aa hsw;have Vp := aa hcw;have s0 := hM.w0 hsw;have s1 := hM.w1 hsw;have s2 := hM.w2 hsw;have c0 := hM.w0 hcw;have c1 := hM.w1 hcw;have c2 := hM.w2 hcw;have hnn : ¬ ((n : Int) < ah T C B 7) := by omega
 have hb' : b < w.heap.size + 1 := by omega
 have OU : b < w.heap.size + 1 + 1 := by omega
 have hk0 : (0 : Int) ≤ (p : Int) := by omega
 have hk1 : (p : Int) < (n : Int) := by omega
 have hk2 : (0 : Int) ≤ (p : Int) + 1 := by omega
 have hk3 : (p : Int) + 1 < (n : Int) := by omega
 have hwk : IntKind.i64.wrap ((p : Int) + 1) = (p : Int) + 1 := IntWalk.i64_in _ oM;have hwr : wrap64 s.r = s.r := by
  have h := hok s (List.mem_of_getElem? hsw);unfold W3.ok at h;unfold wrap64;omega
 clear hP hN hM hl hok hsw hcw hQ;go_enter Tryz.func46, Tryz.ntmps46;go_upto_region 6 with (first
  | (go_at_call 18; refine rB (cZ T C B _ hv (hs.below ae)) ?_; intro w1 hb1 ar aA hs1; (try simp at hs1); have hz1 := zL w.heap.size w1; have hy1 := zL (w.heap.size + 1) w1; have hq1 := zL 0 w1; have hv1 := zL b w1)
  | (go_at_call 19; refine rB (fM T C B _ hv (hs.below ae)) ?_; intro w2 hb2 aH aL hs2; (try simp at hs2); have hz2 := zL w.heap.size w2; have hy2 := zL (w.heap.size + 1) w2; have hq2 := zL 0 w2; have hv2 := zL b w2)
  | (go_at_call 14; refine (dC T C B who _ hv (hs.below ae) h0 h1).mono ?_; rintro e w3 ⟨rfl, hb3⟩; rw [HP.out, HN.out]; obtain ⟨cN, cH, hs3⟩ := bC hb3; (try simp at hs3); have hz3 := zL w.heap.size w3; have nN := zL (w.heap.size + 1) w3; have hq3 := zL 0 w3; have hv3 := zL b w3))
 have s0' := cI w3 b (p * 3) s.v;have s1' := cE w3 b (p * 3 + 1) (.int .u32 s.r);have s2' := cE w3 b (p * 3 + 2) (.int .u32 s.f);have c0' := cI w3 b ((p + 1) * 3) c.v;have c1' := cE w3 b ((p + 1) * 3 + 1) (.int .u32 c.r);have WG := cE w3 b ((p + 1) * 3 + 2) (.int .u32 c.f);have e0 := cI w3 w.heap.size 0 T;have e1 := cI w3 w.heap.size 1 C;have e2 := cI w3 w.heap.size 2 B;have r0 := cI w3 (w.heap.size + 1) 0 0;have r1 := cI w3 (w.heap.size + 1) 1 0;have r2 := cI w3 (w.heap.size + 1) 2 0;have r3 := cE w3 (w.heap.size + 1) 3 (.slice none 0 0);have p0 : ∀ o, w3.frozen? ⟨w.heap.size + 1, o, none⟩ = false := fun o => by
  rw [cH _ _ oM, aL _ _ oM, aA _ _ sM];exact World.frozen?_alloc_at _ _ _ _ sM
 have hB3 : Below w.heap.size w w3 := ae;have Dc := aa (HM.out.grow hB3);have E8 := hs.below hB3;have hnb : ¬ w3.heap.size = b := by omega
 have aaV : ¬ w3.heap.size + 1 = b := by omega
 clear ar aA aH aL cN cH hb1 hb2 hb3 s0 s1 s2 c0 c1 c2;go_cut [10, 11] (fun Q9 Q8 wx => ∃ B1 B2 : Nat, Q9 = .pointer (some ⟨B1, 0, none⟩) ∧ Q8 = .pointer (some ⟨B2, 0, none⟩) ∧ w3.heap.size ≤ B1 ∧ w3.heap.size ≤ B2 ∧ B1 < wx.heap.size ∧ B2 < wx.heap.size ∧ (wx.cell? ⟨B1, 0, none⟩ = some (.int .i64 s.v) ∧ wx.cell? ⟨B1, 1, none⟩ = some (.int .u32 s.r) ∧ wx.cell? ⟨B1, 2, none⟩ = some (.int .u32 s.f)) ∧ (wx.cell? ⟨B2, 0, none⟩ = some (.int .i64 c.v) ∧ wx.cell? ⟨B2, 1, none⟩ = some (.int .u32 c.r) ∧ wx.cell? ⟨B2, 2, none⟩ = some (.int .u32 c.f)) ∧ Below w3.heap.size w3 wx)
 case first =>
  go_region_held3 (fun w' => w'.cell? ⟨b, p * 3, none⟩ = some (.int .i64 s.v) ∧ w'.cell? ⟨b, p * 3 + 1, none⟩ = some (.int .u32 s.r) ∧ w'.cell? ⟨b, p * 3 + 2, none⟩ = some (.int .u32 s.f) ∧ w'.cell? ⟨b, (p + 1) * 3, none⟩ = some (.int .i64 c.v) ∧ w'.cell? ⟨b, (p + 1) * 3 + 1, none⟩ = some (.int .u32 c.r) ∧ w'.cell? ⟨b, (p + 1) * 3 + 2, none⟩ = some (.int .u32 c.f))
   (first | exact ⟨by go_simp, by go_simp, by go_simp, by go_simp, by go_simp, by go_simp⟩ | go_keep)
   (fail)
  all_goals go_wp2_with fail
  all_goals go_meet
  all_goals exact ⟨_, _, rfl, rfl, by omega, by omega, by (try simp) <;> (try omega), by (try simp) <;> (try omega), ⟨by go_simp, by go_simp, by go_simp⟩, ⟨by go_simp, by go_simp, by go_simp⟩, ae⟩
 case rest =>
  obtain ⟨B1, B2, rfl, rfl, g1, g2, g3, g4, ⟨sb0, sb1, sb2⟩, ⟨cb0, cb1, cb2⟩, jL⟩ := hcut;have hbc : ∀ x o, x < w3.heap.size → wc.cell? ⟨x, o, none⟩ = w3.cell? ⟨x, o, none⟩ := fun x o hx => jL.cell (p := ⟨x, o, none⟩) hx;have GZ := (hbc _ 0 nN).trans r0;have GY := (hbc _ 1 nN).trans r1;have MI := (hbc _ 2 nN).trans r2;have MH := (hbc _ 3 nN).trans r3;have e0c := (hbc _ 0 hz3).trans e0;have e1c := (hbc _ 1 hz3).trans e1;have e2c := (hbc _ 2 hz3).trans e2;have p0c : ∀ o, wc.frozen? ⟨w.heap.size + 1, o, none⟩ = false := fT jL p0 nN;have HMc := aa (Dc.out.grow jL);have hsc := E8.below jL;have hsz := jL.size;have Jh : Below w.heap.size w wc := hB3.trans (jL.mono hB3.size);have hzc := zL w.heap.size wc;have Ix := zL (w.heap.size + 1) wc;clear hbc r0 r1 r2 r3 e0 e1 e2 s0' s1' s2' c0' c1' WG p0;have hne := Hne.out;go_wp2_with fail;clear hne;simp only [hwr];obtain ⟨i0, hi, fF, fw, fD⟩ := info_parts ui;obtain ⟨K, hK⟩ : ∃ K, K = wc.heap.size := ⟨_, rfl⟩
  go_loopw [87] (fun i wr => ∃ (k : Nat) (es : List En) (v : Value), i = .int .i64 k ∧ (k : Int) ≤ c.v ∧ dQ ws p k = some es ∧ (∀ e ∈ es, e.ok) ∧ aB wc.heap.size [.int .i64 who, .int .i64 s.r, .int .i64 s.v, v] wr ∧ wr.ownsRow (wc.heap.size + 1) 58 6 v k (es.flatMap ec) ∧ Below wc.heap.size wc wr) (fun i _ => (c.v - intOf i).toNat)
  case atStart => exact ⟨0, [], .slice none 0 0, rfl, by omega, rfl, by simp, aB.made _ _ _, World.ownsRow_nil _ _ _ _, ae⟩
  case round =>
   obtain ⟨k, es, v, rfl, hk, hes, Ag, hX, hown, hB⟩ := hrel;obtain ⟨A, dG, rfl, Cx, LL⟩ := aX hown;have Ou := hB.size;have Kp := HMc.out.grow hB;have hKr := hX.2.2;by_cases hlt : (k : Int) < c.v
   ·have hkn : p + 2 + 3 * k + 2 < n := (by omega);have hx := kC (ws := ws) (k := p + 2 + 3 * k) (by rw [Hl.out]; omega);have hy := kC (ws := ws) (k := p + 2 + 3 * k + 1) (by rw [Hl.out]; omega);have hz := kC (ws := ws) (k := p + 2 + 3 * k + 2) (by rw [Hl.out]; omega);have Sj : (ws.getD (p + 2 + 3 * k + 1) z3).ok := pd.out _ (List.mem_of_getElem? hy);have hent : dQ ws p (k + 1) = if (dN (ws.getD (p + 2 + 3 * k) z3) (ws.getD (p + 2 + 3 * k + 1) z3) (ws.getD (p + 2 + 3 * k + 2) z3)).2 = true then some (es ++ [(dN (ws.getD (p + 2 + 3 * k) z3) (ws.getD (p + 2 + 3 * k + 1) z3) (ws.getD (p + 2 + 3 * k + 2) z3)).1]) else none := by
     rw [dQ, hes]
    generalize ws.getD (p + 2 + 3 * k) z3 = x at hx hent;generalize ws.getD (p + 2 + 3 * k + 1) z3 = y at hy hent Sj;generalize ws.getD (p + 2 + 3 * k + 2) z3 = z at hz hent;have x0 : wr.cell? ⟨b, (p + 2 + 3 * k) * 3, none⟩ = some (.int .i64 x.v) := (by exact Kp.w0 hx);have x1 : wr.cell? ⟨b, (p + 2 + 3 * k) * 3 + 1, none⟩ = some (.int .u32 x.r) := (by exact Kp.w1 hx);have x2 : wr.cell? ⟨b, (p + 2 + 3 * k) * 3 + 2, none⟩ = some (.int .u32 x.f) := (by exact Kp.w2 hx);have x3 : wr.cell? ⟨b, (p + 2 + 3 * k) * 3 + 3, none⟩ = some (.int .i64 y.v) := (by have h := Kp.w0 hy; rw [show (p + 2 + 3 * k + 1) * 3 = (p + 2 + 3 * k) * 3 + 3 by omega] at h; exact h);have x4 : wr.cell? ⟨b, (p + 2 + 3 * k) * 3 + 4, none⟩ = some (.int .u32 y.r) := (by have h := Kp.w1 hy; rw [show (p + 2 + 3 * k + 1) * 3 + 1 = (p + 2 + 3 * k) * 3 + 4 by omega] at h; exact h);have x5 : wr.cell? ⟨b, (p + 2 + 3 * k) * 3 + 5, none⟩ = some (.int .u32 y.f) := (by have h := Kp.w2 hy; rw [show (p + 2 + 3 * k + 1) * 3 + 2 = (p + 2 + 3 * k) * 3 + 5 by omega] at h; exact h);have x6 : wr.cell? ⟨b, (p + 2 + 3 * k) * 3 + 6, none⟩ = some (.int .i64 z.v) := (by have h := Kp.w0 hz; rw [show (p + 2 + 3 * k + 2) * 3 = (p + 2 + 3 * k) * 3 + 6 by omega] at h; exact h);have x7 : wr.cell? ⟨b, (p + 2 + 3 * k) * 3 + 7, none⟩ = some (.int .u32 z.r) := (by have h := Kp.w1 hz; rw [show (p + 2 + 3 * k + 2) * 3 + 1 = (p + 2 + 3 * k) * 3 + 7 by omega] at h; exact h);have x8 : wr.cell? ⟨b, (p + 2 + 3 * k) * 3 + 8, none⟩ = some (.int .u32 z.f) := (by have h := Kp.w2 hz; rw [show (p + 2 + 3 * k + 2) * 3 + 2 = (p + 2 + 3 * k) * 3 + 8 by omega] at h; exact h);obtain ⟨e, he⟩ : ∃ e, e = (dN x y z).1 := ⟨_, rfl⟩;have hu := fun W => Bt x y z W;rw [← he] at hu hent;have J8 := aa hent;have Ty : e.ok := by
     rw [he];unfold dN;split
     ·exact ⟨by decide, by decide, by decide, by decide, by decide, by decide⟩
     ·split
      ·exact Sj
      ·exact ⟨by decide, by decide, by decide, by decide, by decide, by decide⟩
    clear he hent hx hy hz;have hbr : b < wr.heap.size := Kp.2.2;have hat := JO;have d0 := hX.at (j := 0) rfl;have d1 := hX.at (j := 1) rfl;have d2 := hX.at (j := 2) rfl;have d3 := hX.at (j := 3) rfl;have dz : ∀ o, wr.frozen? ⟨wc.heap.size, o, none⟩ = false := hX.2.1;have j0 : (0 : Int) ≤ (p : Int) + 2 + 3 * (k : Int) := (by omega);have j1 : (p : Int) + 2 + 3 * (k : Int) + 3 ≤ (n : Int) := (by omega);have j2 : (p : Int) + 2 + 3 * (k : Int) + 3 ≤ (cap : Int) := (by omega);have j3 : (0 : Int) ≤ (p : Int) + 2 + 3 * (k : Int) + 3 := (by omega);have j4 : ¬ cap = p + 2 + 3 * k := (by omega);have j5 : p + 2 + 3 * k + 3 - (p + 2 + 3 * k) = 3 := (by omega);cases hq : (dN x y z).2 with
    | true =>
     have Hu := aa (fun W => by have h := hu W; rw [hq] at h; exact h);clear hu;go_wp2_with (first
      | (go_at_call 64; refine (Hu.out _).mono ?_; rintro e' w5 ⟨rfl, hb5⟩; obtain ⟨bX, cw, hs5⟩ := bC hb5; (try simp at hs5); have hK5 := zL wc.heap.size w5)
      | (at_builtin; refine aK rfl _ _ 49 rfl (wc.heap.size + 1) 58 i0 _ 6 40 Tryz.underlying49 hi fF fw fD rfl dM (.slice A k dG) k (es.flatMap ec) rfl (own_below hown ae) (some ⟨w5.heap.size + 1, 0, none⟩) 1 1 (ec e) rfl _ (Rf (e := e) (by go_simp) (by go_simp) (by go_simp) (by go_simp) (by go_simp) (by go_simp)) (yD e) (by unfold maxLen; omega) oM (by simp; omega) (wc.heap.size + 1) _ (Below.refl _ _) (Nat.le_refl _) ?_; intro v' w6 aW hb6 lL; obtain ⟨A', cap', rfl, aeD, aeK⟩ := aX aW; have X6 : aB wc.heap.size [.int .i64 who, .int .i64 s.r, .int .i64 s.v, .slice A k dG] w6 := (hX.below (by first | exact ae)).under hb6 oM; have d36 := X6.at (j := 3) rfl; have dz6 : ∀ o, w6.frozen? ⟨wc.heap.size, o, none⟩ = false := X6.2.1))
     have yw : Below wc.heap.size wc w6 := by
      have h1 : Below wc.heap.size wc w5 := hB.trans (hb5.mono hB.size);have h2 : Below (wc.heap.size + 1) w5 w6 := ((((Below.refl _ _).alloc oM _).alloc (by simp; omega) _).trans hb6);exact h1.trans (h2.mono oM)
     have Tz : dQ ws p (k + 1) = some (es ++ [e]) := by
      have h := J8.out;rw [hq, if_pos rfl] at h;exact h
     refine ⟨⟨k + 1, es ++ [e], .slice A' (k + 1) cap', by go_num, by omega, Tz, ?_, ?_, ?_, ?_⟩, by simp [intOf]; omega⟩
     ·intro x hx;rcases List.mem_append.1 hx with h | h
      ·exact Ag x h
      ·rw [List.mem_singleton.1 h]; exact Ty
     ·exact X6.store (o := 3) sM _
     ·rw [List.flatMap_append];have h := ownsRow_setCell_below aW (a := ⟨wc.heap.size, 3, none⟩) sM (.slice A' (k + 1) cap');simpa using h
     ·exact ae
    | false =>
     have Hu := aa (fun W => by have h := hu W; rw [hq] at h; exact h);clear hu;have hnone : dQ ws p c.v.toNat = none := by
      have h := J8.out;rw [hq, if_neg sM] at h;have h2 := uL (c.v.toNat - (k + 1)) h;rw [show k + 1 + (c.v.toNat - (k + 1)) = c.v.toNat by omega] at h2;exact h2
     have pO : ∀ x o, x < wc.heap.size → wr.cell? ⟨x, o, none⟩ = wc.cell? ⟨x, o, none⟩ := fun x o hx => hB.cell (p := ⟨x, o, none⟩) hx;have q0 := (pO _ 0 Ix).trans GZ;have q1 := (pO _ 1 Ix).trans GY;have q2 := (pO _ 2 Ix).trans MI;have q3 := (pO _ 3 Ix).trans MH;have qz : ∀ o, wr.frozen? ⟨w.heap.size + 1, o, none⟩ = false := fT hB p0c Ix;have rR := zL (w.heap.size + 1) wr;have Ve := aa hnone;have hBw : Below w.heap.size w wr := Jh.trans (hB.mono Jh.size);clear pO hnone;go_wp2_with (first
      | (go_at_call 64; refine (Hu.out _).mono ?_; rintro e' w5 ⟨rfl, hb5⟩; obtain ⟨bX, cw, hs5⟩ := bC hb5; (try simp at hs5); have wW := zL (w.heap.size + 1) w5))
     have t0 := cI w5 (w.heap.size + 1) 0 0;have t1 := cI w5 (w.heap.size + 1) 1 0;have t2 := cI w5 (w.heap.size + 1) 2 0;have t3 := cE w5 (w.heap.size + 1) 3 (.slice none 0 0);exact bodyPost_ret (v := .tuple #[.agg #[.int .i64 0, .int .i64 0, .int .i64 0, .slice none 0 0], .int .i64 5]) (by simp [results, Tryz.results46, go_sem, t0, t1, t2, t3, wW]) rfl (by rw [HQ.out, Ve.out]; exact ⟨5, by decide, rfl, ae⟩)
   ·have hkc : (k : Int) = c.v := (by omega);have Tl : c.v.toNat = k := (by omega);have hlen := qW hes;have abb : k ≤ 1000 := (by omega);have C9 := aa (G5 hown);have hcm := xN hown;have d0 := hX.at (j := 0) rfl;have d1 := hX.at (j := 1) rfl;have d2 := hX.at (j := 2) rfl;have d3 := hX.at (j := 3) rfl;have pO : ∀ x o, x < wc.heap.size → wr.cell? ⟨x, o, none⟩ = wc.cell? ⟨x, o, none⟩ := fun x o hx => hB.cell (p := ⟨x, o, none⟩) hx;have q0 := (pO _ 0 Ix).trans GZ;have q1 := (pO _ 1 Ix).trans GY;have q2 := (pO _ 2 Ix).trans MI;have q3 := (pO _ 3 Ix).trans MH;have f0 := (pO _ 0 hzc).trans e0c;have f1 := (pO _ 1 hzc).trans e1c;have f2 := (pO _ 2 hzc).trans e2c;have qz : ∀ o, wr.frozen? ⟨w.heap.size + 1, o, none⟩ = false := fT hB p0c Ix;have rR := zL (w.heap.size + 1) wr;have rO := zL w.heap.size wr;have hBw : Below w.heap.size w wr := Jh.trans (hB.mono Jh.size);have SF := hsc.below hB;have WQ : Hid (dQ ws p c.v.toNat = some es) := aa (by rw [Tl]; exact hes);have af3 := aa Ag;have Vj := aa hlen;have hci := fun W hs' uU => oP T C B who s.r s.v A k dG es W hv hs' h0 h1 uU hlen abb Cx hcm Ag;obtain ⟨E, hE⟩ : ∃ E, E = eu T C B who s.r s.v es := ⟨_, rfl⟩;simp only [← hE] at hci;have WS := aa hci;have HE := aa hE;clear pO hes Ag hown hlen hci hE;by_cases hz : E = 0
    ·subst hz;go_wp2_with (first
      | (go_at_call 37; refine (WS.out _ SF C9.out).mono ?_; rintro e' w5 ⟨rfl, hb5⟩; obtain ⟨bX, cw, hs5⟩ := bC hb5; (try simp at hs5); have wW := zL (w.heap.size + 1) w5))
     have t0 := cI w5 (w.heap.size + 1) 0 0;have t1 := cI w5 (w.heap.size + 1) 1 0;have t2 := cI w5 (w.heap.size + 1) 2 0;have t3 := cE w5 (w.heap.size + 1) 3 (.slice none 0 0);refine bodyPost_ret (v := .tuple #[.agg #[.int .i64 who, .int .i64 s.r, .int .i64 s.v, .slice A k dG], .int .i64 0]) (by simp [results, Tryz.results46, go_sem, t0, t1, t2, t3, wW]) rfl ?_;rw [HQ.out, WQ.out];simp only [← HE.out, if_true];have hl2 := Vj.out;subst hl2;refine ⟨A, dG, rfl, ?_, Cx, ae⟩;have hr5 := C9.out.below hb5;have hkk : ∀ b off, A = some ⟨b, off, none⟩ → wc.heap.size + 1 ≤ b := LL;exact KS (hr5.more hs5) (fun b off e => by have := hkk b off e; omega) _ _ _ _
    ·have hzb : (E != 0) = true := (by simp [hz]);go_wp2_with (first
      | (go_at_call 37; refine (WS.out _ SF C9.out).mono ?_; rintro e' w5 ⟨rfl, hb5⟩; obtain ⟨bX, cw, hs5⟩ := bC hb5; (try simp at hs5); have wW := zL (w.heap.size + 1) w5))
     have t0 := cI w5 (w.heap.size + 1) 0 0;have t1 := cI w5 (w.heap.size + 1) 1 0;have t2 := cI w5 (w.heap.size + 1) 2 0;have t3 := cE w5 (w.heap.size + 1) 3 (.slice none 0 0);refine bodyPost_ret (v := .tuple #[.agg #[.int .i64 0, .int .i64 0, .int .i64 0, .slice none 0 0], .int .i64 5]) (by simp [results, Tryz.results46, go_sem, t0, t1, t2, t3, wW]) rfl ?_;rw [HQ.out, WQ.out];simp only [← HE.out, hz, if_false];exact ⟨5, by decide, rfl, ae⟩
end Go.Proofs.YtapjfhbonfehpaaGreatDoor
