/- Package detect: Ats, Asked. -/
import Derived.Test.YtapjfhbonfehpaaGreatDoorV22
set_option linter.unusedSimpArgs false
set_option linter.unusedVariables false
set_option maxRecDepth 100000
set_option maxHeartbeats 40000000
namespace Go.Proofs.YtapjfhbonfehpaaGreatDoor
open Go.RowKit
theorem PC (T C B t : Int) (r : Nat) (w : World) (hv : aC T C B) (hs : ai w) (h0 : 1 ≤ t) (h1 : t ≤ T) (hr : fG T C B 2 (t - 1) 0 = (r : Int)) :
  Calls Tryz.prog 61 #[(.agg #[.int .i64 T, .int .i64 C, .int .i64 B]), .int .i64 t] w fun e w' => ∃ g : Nat, e = .returned (.slice (some ⟨g, 0, none⟩) 3 3) ∧ w.heap.size ≤ g ∧ g < w'.heap.size ∧ w'.cell? ⟨g, 0, none⟩ = some (.int .i64 r) ∧ w'.cell? ⟨g, 1, none⟩ = some (.int .i64 ((r : Int) + 1)) ∧ w'.cell? ⟨g, 2, none⟩ = some (.int .i64 ((r : Int) + 2)) ∧ Below w.heap.size w w' := by
 have hp := hs.pos;have hT := hv.1.2.1;have hrn : (r : Int) < 4096 := by
  have h := jI T C B hv 2 dM (t - 1) 0 oM (by show t - 1 < T; omega) dM dM;have := hv.2;omega
 have HR := aa hr;clear hr;go_enter Tryz.func61, Tryz.ntmps61;go_wp2_with (first
  | (go_at_call 15; refine (wJ T C B t _ hv (hs.below ae) oM oM).mono ?_; rintro e w1 ⟨rfl, hb1⟩; rw [HR.out]; obtain ⟨ar, aA, hs1⟩ := bC hb1; (try simp at hs1); have hz1 := zL w.heap.size w1))
 go_ret;exact ⟨w1.heap.size, rfl, by omega, by simp, by go_simp, by go_simp, by go_simp, ae⟩
theorem KQ (T C B t : Int) (j : Nat) (hv : aC T C B) (h0 : 1 ≤ t) (h1 : t ≤ T) (hj : j < 3) : iY T C B (fG T C B 2 (t - 1) 0 + j) = true := by
 have e3 : ah T C B 3 = ah T C B 2 + 8 * T := rfl;have e2 : ah T C B 2 = ah T C B 1 + 8 * T := rfl;have e1 : ah T C B 1 = 8 := rfl;unfold iY fG;rw [if_pos ⟨by omega, by show t - 1 < T; omega⟩, show gq 2 = 8 from rfl];simp only [Bool.or_eq_true, Bool.and_eq_true, decide_eq_true_eq];right;omega
def gH (T C B : Int) (ws : List W3) (t : Int) : Int × Int × Int × Int :=
 let r := (fG T C B 2 (t - 1) 0).toNat
 if (aj T C B ws r).v < 0 ∨ (aj T C B ws (r + 2)).v < 0 ∨ 255 < (aj T C B ws (r + 2)).v then (0, 0, 0, 5) else ((aj T C B ws r).v, (aj T C B ws (r + 2)).v, (aj T C B ws (r + 1)).v, 0)
def rp (a : Int × Int × Int × Int) (w : World) (e : Ending) (w' : World) : Prop := e = .returned (.tuple #[.int .i64 a.1, .agg #[.int .i64 a.2.1, .int .i64 a.2.2.1], .int .i64 a.2.2.2]) ∧ Below w.heap.size w w'
def r3 (y0 y1 y2 : Int) (k : Nat) : List Value := [.int .i64 (if 0 < k then y0 else 0), .int .i64 (if 1 < k then y1 else 0), .int .i64 (if 2 < k then y2 else 0)]
def p3 (y0 y1 y2 : Int) (k : Nat) : Int := if k = 0 then y0 else if k = 1 then y1 else y2
theorem NJ (y0 y1 y2 : Int) {k : Nat} (h : k < 3) : (r3 y0 y1 y2 k).set k (.int .i64 (p3 y0 y1 y2 k)) = r3 y0 y1 y2 (k + 1) := by
 match k, h with
 | 0, _ => rfl
 | 1, _ => rfl
 | 2, _ => rfl
theorem Rh (y0 y1 y2 : Int) {k : Nat} (h : k < 3) : (r3 y0 y1 y2 k)[k]? = some (.int .i64 0) := by
 match k, h with
 | 0, _ => rfl
 | 1, _ => rfl
 | 2, _ => rfl
theorem JN (T C B t : Int) (b n cap : Nat) (ws : List W3) (w : World) (hv : aC T C B) (hs : ai w) (hM : Mem b ws w) (hl : ws.length = n) (hnm : n ≤ 1000000) (hcap : n ≤ cap) (hok : ∀ x ∈ ws, x.ok) (hn : ah T C B 7 = (n : Int)) (h0 : 1 ≤ t) (h1 : t ≤ T) :
  Calls Tryz.prog 40 #[(.agg #[.int .i64 T, .int .i64 C, .int .i64 B]), .slice (some ⟨b, 0, none⟩) n cap, .int .i64 t] w (rp (gH T C B ws t) w) := by
 have hpos := hs.pos;have hb := hM.2.2;have hin := jI T C B hv 2 dM (t - 1) 0 oM (by show t - 1 < T; omega) dM dM;obtain ⟨r, hr⟩ : ∃ r : Nat, fG T C B 2 (t - 1) 0 = (r : Int) := ⟨(fG T C B 2 (t - 1) 0).toNat, by omega⟩;have iO : ∀ j : Nat, j < 3 → ∀ (W : World), ai W → Mem b ws W → r + j < n ∧ Calls Tryz.prog 22 #[(.agg #[.int .i64 T, .int .i64 C, .int .i64 B]), .slice (some ⟨b, 0, none⟩) n cap, .int .i64 ((r + j : Nat) : Int)] W (yJ (aj T C B ws (r + j)) 0 W) := fun j hj W hs' yv => by
  have hm := KQ T C B t j hv h0 h1 hj;rw [hr] at hm;have hm2 : iY T C B ((r + j : Nat) : Int) = true := by rw [show ((r + j : Nat) : Int) = (r : Int) + (j : Int) by omega]; exact hm
  have hi := ua hv hm2;have hlt : r + j < n := by omega
  exact ⟨hlt, mz T C B b n cap (r + j) _ _ _ ws W hv hs' yv hl hnm hcap hok oM hm2 (List.getElem?_eq_getElem oM) rfl⟩
 have TQ : gH T C B ws t = if (aj T C B ws r).v < 0 ∨ (aj T C B ws (r + 2)).v < 0 ∨ 255 < (aj T C B ws (r + 2)).v then (0, 0, 0, 5) else ((aj T C B ws r).v, (aj T C B ws (r + 2)).v, (aj T C B ws (r + 1)).v, 0) := by
  unfold gH;rw [hr, Int.toNat_natCast]
 rw [TQ];clear TQ;have l0 := iO 0 dM;have l1 := iO 1 dM;have l2 := iO 2 dM;rw [Nat.add_zero] at l0;have hr2 : r + 2 < n := (l2 w hs hM).1;obtain ⟨x0, hx0⟩ : ∃ x, x = aj T C B ws r := ⟨_, rfl⟩;obtain ⟨x1, hx1⟩ : ∃ x, x = aj T C B ws (r + 1) := ⟨_, rfl⟩;obtain ⟨x2, hx2⟩ : ∃ x, x = aj T C B ws (r + 2) := ⟨_, rfl⟩;rw [← hx0, ← hx1, ← hx2];rw [← hx0] at l0;rw [← hx1] at l1;rw [← hx2] at l2;have vT : Hid (∀ k : Nat, k < 3 → ∀ (W : World), ai W → Mem b ws W → Calls Tryz.prog 22 #[(.agg #[.int .i64 T, .int .i64 C, .int .i64 B]), .slice (some ⟨b, 0, none⟩) n cap, .int .i64 ((r : Int) + (k : Int))] W fun e W' => ∃ u f : Int, e = .returned (.tuple #[.agg #[.int .i64 (p3 x0.v x1.v x2.v k), .int .u32 u, .int .u32 f], .int .i64 0]) ∧ Below W.heap.size W W') := aa (fun k hk W hs' yv => by
  have hgo : ∀ (x : W3) (j : Nat), j = r + k → x.v = p3 x0.v x1.v x2.v k → Calls Tryz.prog 22 #[(.agg #[.int .i64 T, .int .i64 C, .int .i64 B]), .slice (some ⟨b, 0, none⟩) n cap, .int .i64 ((j : Nat) : Int)] W (yJ x 0 W) → Calls Tryz.prog 22 #[(.agg #[.int .i64 T, .int .i64 C, .int .i64 B]), .slice (some ⟨b, 0, none⟩) n cap, .int .i64 ((r : Int) + (k : Int))] W fun e W' => ∃ u f : Int, e = .returned (.tuple #[.agg #[.int .i64 (p3 x0.v x1.v x2.v k), .int .u32 u, .int .u32 f], .int .i64 0]) ∧ Below W.heap.size W W' := fun x j hj hx hC => by
   subst hj;rw [show (r : Int) + (k : Int) = ((r + k : Nat) : Int) by omega, ← hx];exact hC.mono fun e W' ⟨he, hb⟩ => ⟨x.r, x.f, he, hb⟩
  match k, hk with
  | 0, _ => exact hgo x0 r rfl rfl (l0 W hs' yv).2
  | 1, _ => exact hgo x1 (r + 1) rfl rfl (l1 W hs' yv).2
  | 2, _ => exact hgo x2 (r + 2) rfl rfl (l2 W hs' yv).2)
 have HN := aa hn;have HR := aa hr;have HM := aa hM;have hnn : ¬ ((n : Int) < (n : Int)) := by omega
 have Tb : (n : Int) ≤ (cap : Int) := by omega
 have aaY : (0 : Int) ≤ (n : Int) := by omega
 have heq : ∀ (G : Nat) (W : World), (binOp .eql 77 (.slice (some ⟨G, 0, none⟩) 3 3) (.slice none 0 0)).run Tryz.prog W = .ok (.bool false) W := fun G W => by kernel_rfl
 obtain ⟨y0, hy0⟩ : ∃ y, y = x0.v := ⟨_, rfl⟩;obtain ⟨y1, hy1⟩ : ∃ y, y = x1.v := ⟨_, rfl⟩;obtain ⟨y2, hy2⟩ : ∃ y, y = x2.v := ⟨_, rfl⟩;simp only [← hy0, ← hy1, ← hy2] at vT ⊢;obtain ⟨Q, hQ⟩ : ∃ Q : Ending → World → Prop, Q = rp (if y0 < 0 ∨ y2 < 0 ∨ 255 < y2 then (0, 0, 0, 5) else (y0, y2, y1, 0)) w := ⟨_, rfl⟩;rw [← hQ];have HQ := aa hQ;clear hM hl hok hn hr iO l0 l1 l2 hx0 hx1 hx2 hin hy0 hy1 hy2 hQ;go_enter Tryz.func40, Tryz.ntmps40;go_wp2_with (first
  | (go_at_call 61; refine (PC T C B t r _ hv (hs.below ae) h0 h1 HR.out).mono ?_; rintro e w1 ⟨G, rfl, Nb, Ks, g0, g1, g2, hb1⟩; obtain ⟨ar, aA, hs1⟩ := bC hb1; (try simp at hs1); have hz1 := zL w.heap.size w1; have hy1 := zL (w.heap.size + 1) w1; have hq1 := zL 0 w1)
  | (go_at_call 18; refine rB (cZ T C B _ hv (hs.below ae)) ?_; intro w2 hb2 aH aL hs2; (try simp at hs2); have hz2 := zL w.heap.size w2; have hy2 := zL (w.heap.size + 1) w2; have hq2 := zL 0 w2)
  | (go_at_call 19; refine (fM T C B _ hv (hs.below ae)).mono ?_; rintro e w3 ⟨rfl, hb3⟩; rw [HN.out]; obtain ⟨cN, cH, hs3⟩ := bC hb3; (try simp at hs3); have hz3 := zL w.heap.size w3; have nN := zL (w.heap.size + 1) w3; have hq3 := zL 0 w3))
 have G0 : w3.cell? ⟨G, 0, none⟩ = some (.int .i64 r) := by rw [cN _ _ oM, aH _ _ oM]; exact g0
 have G1 : w3.cell? ⟨G, 1, none⟩ = some (.int .i64 ((r : Int) + 1)) := by rw [cN _ _ oM, aH _ _ oM]; exact g1
 have G2 : w3.cell? ⟨G, 2, none⟩ = some (.int .i64 ((r : Int) + 2)) := by rw [cN _ _ oM, aH _ _ oM]; exact g2
 have hG3 := zL G w3;have e0 := cI w3 w.heap.size 0 T;have e1 := cI w3 w.heap.size 1 C;have e2 := cI w3 w.heap.size 2 B;have r0 := cI w3 (w.heap.size + 1) 0 0;have r1 := cI w3 (w.heap.size + 1) 1 0;have p0 : ∀ o, w3.frozen? ⟨w.heap.size + 1, o, none⟩ = false := fun o => by
  rw [cH _ _ oM, aL _ _ oM, aA _ _ sM];exact World.frozen?_alloc_at _ _ _ _ sM
 have hB3 : Below w.heap.size w w3 := ae;have Vy := aa (hs.below hB3);have Dc := aa (HM.out.grow hB3);clear ar aH cN aA aL cH hb1 hb2 hb3 g0 g1 g2
 go_loopw [36] (fun i wr => ∃ k : Nat, i = .int .i64 k ∧ k ≤ 3 ∧ aB w3.heap.size (r3 y0 y1 y2 k) wr ∧ Below w3.heap.size w3 wr) (fun i _ => 3 - (intOf i).toNat)
 case atStart => exact ⟨0, rfl, by omega, aB.made _ #[.int .i64 0, .int .i64 0, .int .i64 0] _, ae⟩
 case round =>
  obtain ⟨k, rfl, hk, hX, hB⟩ := hrel;have hsz := hB.size;have hbc : ∀ x o, x < w3.heap.size → wr.cell? ⟨x, o, none⟩ = w3.cell? ⟨x, o, none⟩ := fun x o hx => hB.cell (p := ⟨x, o, none⟩) hx;have f0 := (hbc _ 0 hz3).trans e0;have f1 := (hbc _ 1 hz3).trans e1;have f2 := (hbc _ 2 hz3).trans e2;have q0 := (hbc _ 0 nN).trans r0;have q1 := (hbc _ 1 nN).trans r1;have qf : ∀ o, wr.frozen? ⟨w.heap.size + 1, o, none⟩ = false := fT hB p0 nN;have rO := zL w.heap.size wr;have rR := zL (w.heap.size + 1) wr;have adl : w.heap.size < wr.heap.size + 1 := by omega
  have hnr : ¬ wr.heap.size = w.heap.size := by omega
  have adT := hX.2.2;have hmr : ¬ wr.heap.size = w3.heap.size := by omega
  have hBr : Below w.heap.size w wr := hB3.trans (hB.mono oM);have jm := aa (Vy.out.below hB);have Gi := aa (Dc.out.grow hB);by_cases hlt : k < 3
  ·have hat : wr.cell? ⟨G, k, none⟩ = some (.int .i64 ((r : Int) + (k : Int))) := by
    rw [hbc _ _ hG3]
    match k, hlt with
    | 0, _ => rw [G0]; simp
    | 1, _ => exact G1
    | 2, _ => exact G2
   have hst := NJ y0 y1 y2 hlt;have fV := aa hst;have h3 := Rh y0 y1 y2 hlt;have d0 : wr.cell? ⟨w3.heap.size, k, none⟩ = some (.int .i64 0) := hX.at h3;have df := hX.2.1;have hXl := hX.2.2;have HX := aa hX;obtain ⟨y, hy⟩ : ∃ y, y = p3 y0 y1 y2 k := ⟨_, rfl⟩;have hlk := vT.out k hlt;rw [← hy] at hlk;have WP := aa hlk;have Hy := aa hy;have hki : (0 : Int) ≤ (k : Int) := by omega
   have hkj : (k : Int) < 3 := by omega
   clear hbc hst h3 hX hlk hy;go_wp2_with fail
   go_region_held3 (fun w' => w'.cell? ⟨w.heap.size, 0, none⟩ = some (.int .i64 T) ∧ w'.cell? ⟨w.heap.size, 1, none⟩ = some (.int .i64 C) ∧ w'.cell? ⟨w.heap.size, 2, none⟩ = some (.int .i64 B))
    (first | exact ⟨f0, f1, f2⟩ | go_keep)
    (first
     | (go_at_call 19; refine (fM T C B _ hv (jm.out.below ae)).mono ?_; rintro e' w5 ⟨rfl, bU⟩; rw [HN.out]; have hb5 : Below _ _ w5 := jM; clear bU; obtain ⟨bX, cw, hs5⟩ := bC hb5; (try simp at hs5); have lF := zL w.heap.size w5; have hx5 := zL w3.heap.size w5; have Cr : w.heap.size < w5.heap.size + 1 := oM; have adS : w3.heap.size < w5.heap.size + 1 := oM; have Wl : ¬ w5.heap.size = w.heap.size := oM; have dv : ¬ w5.heap.size = w3.heap.size := oM; (try have hl5 := zL wr.heap.size w5))
     | (go_at_call 22; refine (WP.out _ (jm.out.below ae) (Gi.out.grow ae)).mono ?_; rintro e' w6 ⟨u6, f6, rfl, fe⟩; have hb6 : Below _ _ w6 := (by first | with_reducible exact dx fe | exact fe); clear fe; obtain ⟨iR, iQ, hs6⟩ := bC hb6; (try simp at hs6); have zX := zL w.heap.size w6; have hx6 := zL w3.heap.size w6; have hn6 : ¬ w6.heap.size = w.heap.size := oM; have hm6 : ¬ w6.heap.size = w3.heap.size := oM; (try have Fb := zL wr.heap.size w6); (try have aeq := zL w5.heap.size w6)))
   all_goals go_wp2_with fail
   all_goals have OY : aB w3.heap.size (r3 y0 y1 y2 k) w6 := HX.out.below ae
   all_goals refine ⟨⟨k + 1, by go_num, by omega, ?_, ae⟩, by simp [intOf]; omega⟩
   all_goals rw [← fV.out, ← Hy.out]
   all_goals have hkl : k < (r3 y0 y1 y2 k).length := hlt
   ·exact (OY.store hkl _).below ae
   ·exact (((OY.far dv _).far dv _).far dv _).store hkl _
   ·exact (((OY.far hmr _).far hmr _).far hmr _).store hkl _
  ·obtain rfl : k = 3 := by omega
   have d0 : wr.cell? ⟨w3.heap.size, 0, none⟩ = some (.int .i64 y0) := hX.at rfl;have d1 : wr.cell? ⟨w3.heap.size, 1, none⟩ = some (.int .i64 y1) := hX.at rfl;have d2 : wr.cell? ⟨w3.heap.size, 2, none⟩ = some (.int .i64 y2) := hX.at rfl;have df := hX.2.1;have hXl := hX.2.2;have hne : ¬ w.heap.size + 1 = w3.heap.size := by omega
   clear hbc hX;by_cases c0 : y0 < 0
   ·go_wp2_with fail;exact bodyPost_ret (v := .tuple #[.int .i64 0, .agg #[.int .i64 0, .int .i64 0], .int .i64 5]) (by simp [results, Tryz.results40, go_sem, q0, q1, rR]) rfl (by rw [HQ.out, if_pos (Or.inl c0)]; exact ⟨rfl, ae⟩)
   by_cases c2 : y2 < 0
   ·go_wp2_with fail;exact bodyPost_ret (v := .tuple #[.int .i64 0, .agg #[.int .i64 0, .int .i64 0], .int .i64 5]) (by simp [results, Tryz.results40, go_sem, q0, q1, rR]) rfl (by rw [HQ.out, if_pos (Or.inr (Or.inl c2))]; exact ⟨rfl, ae⟩)
   by_cases c3 : 255 < y2
   ·go_wp2_with fail;exact bodyPost_ret (v := .tuple #[.int .i64 0, .agg #[.int .i64 0, .int .i64 0], .int .i64 5]) (by simp [results, Tryz.results40, go_sem, q0, q1, rR]) rfl (by rw [HQ.out, if_pos (Or.inr (Or.inr c3))]; exact ⟨rfl, ae⟩)
   go_wp2_with fail
   go_region_held3 (fun w' => w'.cell? ⟨w3.heap.size, 0, none⟩ = some (.int .i64 y0) ∧ w'.cell? ⟨w3.heap.size, 1, none⟩ = some (.int .i64 y1) ∧ w'.cell? ⟨w3.heap.size, 2, none⟩ = some (.int .i64 y2))
    (first | exact ⟨d0, d1, d2⟩ | go_keep)
    (fail)
   all_goals go_wp2_with fail
   all_goals exact bodyPost_ret (v := .tuple #[.int .i64 y0, .agg #[.int .i64 y2, .int .i64 y1], .int .i64 0]) (by simp [results, Tryz.results40, go_sem, q0, q1, rR]) rfl (by rw [HQ.out, if_neg oM]; exact ⟨rfl, ae⟩)
theorem CW (T C B : Int) (ws : List W3) (t : Int) : (gH T C B ws t).2.2.2 = 0 ∨ (gH T C B ws t).2.2.2 = 5 := by
 unfold gH;simp only [];split
 ·right; rfl
 ·left; rfl
def Er (t : Int) (a : Int × Int × Int × Int) : List Value := [.int .i64 t, .int .i64 a.1, .int .i64 a.2.1, .int .i64 a.2.2.1]
def td (T C B : Int) (ws : List W3) (k : Nat) : List Value := (List.range k).flatMap (fun i : Nat => Er ((i : Int) + 1) (gH T C B ws ((i : Int) + 1)))
theorem BJ (T C B : Int) (ws : List W3) (k : Nat) : td T C B ws (k + 1) = td T C B ws k ++ Er ((k : Int) + 1) (gH T C B ws ((k : Int) + 1)) := by unfold td; rw [List.range_succ, List.flatMap_append]; simp
def rA (T C B : Int) (ws : List W3) (k : Nat) : Bool := (List.range k).all (fun i => (gH T C B ws ((i : Int) + 1)).2.2.2 == 0)
theorem tz (T C B : Int) (ws : List W3) (k : Nat) : rA T C B ws (k + 1) = (rA T C B ws k && ((gH T C B ws ((k : Int) + 1)).2.2.2 == 0)) := by unfold rA; rw [List.range_succ, List.all_append]; simp
theorem GJ {T C B : Int} {ws : List W3} {k n : Nat} (h : rA T C B ws k = false) (hk : k ≤ n) : rA T C B ws n = false := by
 induction n with
 | zero =>
  obtain rfl : k = 0 := by omega
  exact h
 | succ n ih =>
  rcases Nat.lt_or_ge n k with h2 | h2
  ·obtain rfl : k = n + 1 := by omega
   exact h
  ·rw [tz, ih h2]; rfl
def kG (T C B : Int) (rw : List W3) (n : Nat) (w : World) (e : Ending) (w' : World) : Prop :=
 if rA T C B rw T.toNat = true then ∃ (g cap : Nat) (A : Option Addr) (Mc : Nat), e = .returned (.tuple #[.slice (some ⟨g, 0, none⟩) n cap, .slice A T.toNat Mc, .int .i64 0]) ∧ Mem g rw w' ∧ w.heap.size ≤ g ∧ n ≤ cap ∧ cap ≤ maxLen ∧ Rd w' w'.heap.size 4 A T.toNat (td T C B rw T.toNat) ∧ Below w.heap.size w w'
 else e = .returned (.tuple #[.slice none 0 0, .slice none 0 0, .int .i64 5]) ∧ Below w.heap.size w w'
theorem Il : (Tryz.prog.info? 73).map (fun i => (i.zero, i.size, i.bytes)) = some (some (.agg #[.int .i64 0, .int .i64 0, .int .i64 0, .int .i64 0]), 4, 32) := by kernel_rfl
theorem KV {w : World} {b : Nat} {v0 v1 v2 v3 : Value} (h0 : w.cell? ⟨b, 0, none⟩ = some v0) (h1 : w.cell? ⟨b, 1, none⟩ = some v1) (h2 : w.cell? ⟨b, 2, none⟩ = some v2) (h3 : w.cell? ⟨b, 3, none⟩ = some v3) : Rd w w.heap.size 4 (some ⟨b, 0, none⟩) 1 [v0, v1, v2, v3] := ⟨rfl, fun _ => ⟨b, 0, rfl, cB h0, fun j u hu => by
 rw [Nat.zero_add]
 match j, hu with
 | 0, hu => injection hu with hu; subst hu; exact h0
 | 1, hu => injection hu with hu; subst hu; exact h1
 | 2, hu => injection hu with hu; subst hu; exact h2
 | 3, hu => injection hu with hu; subst hu; exact h3
 | j + 4, hu => simp at hu⟩⟩
theorem Iu (T C B : Int) (b n cap : Nat) (ws : List W3) (w : World) (hv : aC T C B) (hs : ai w) (hM : Mem b ws w) (hl : ws.length = n) (hnm : n ≤ 1000000) (hcap : n ≤ cap) (hok : ∀ x ∈ ws, x.ok) (hn : ah T C B 7 = (n : Int)) :
  Calls Tryz.prog 16 #[(.agg #[.int .i64 T, .int .i64 C, .int .i64 B]), .slice (some ⟨b, 0, none⟩) n cap] w (kG T C B (dI T C B ws) n w) := by
 have hpos := hs.pos;have hb := hM.2.2;obtain ⟨f1, f2, -, -, f5, f6⟩ := hv.1;obtain ⟨M, rfl⟩ : ∃ M : Nat, T = (M : Int) := ⟨T.toNat, by omega⟩;have hwd := fun W hs' yv => yZ M C B b n cap ws W hv hs' yv hl hnm hcap hok hn;have hrl : (dI M C B ws).length = n := by rw [fP, hl]
 have Ow := zA M C B hok;obtain ⟨KP, hrw⟩ : ∃ r, r = dI M C B ws := ⟨_, rfl⟩;rw [← hrw] at hrl Ow ⊢;simp only [← hrw] at hwd;have WJ := aa hwd;have hak := fun (t : Int) (ht0 : 1 ≤ t) (We : t ≤ M) (g cap' : Nat) (hc' : n ≤ cap') W hs' yv => JN M C B t g n cap' KP W hv hs' yv hrl hnm hc' Ow hn ht0 We;have Hak := aa hak;have HM := aa hM;obtain ⟨Q, hQ⟩ : ∃ Q : Ending → World → Prop, Q = kG M C B KP n w := ⟨_, rfl⟩;rw [← hQ];have HQ := aa hQ;clear hwd hM hl hok hn hrl Ow hrw hak hQ;obtain ⟨i0, hi, fF, fw, fD⟩ := info_parts Il;go_enter Tryz.func16, Tryz.ntmps16;go_wp2_with (first
  | (go_at_call 7; refine (WJ.out _ (hs.below ae) (HM.out.grow ae)).mono ?_; rintro e w1 ⟨g, cp, rfl, Jf, hg, hcp, hcm, hb1⟩; (try simp at hg); obtain ⟨ar, aA, hs1⟩ := bC hb1; (try simp at hs1); have hz1 := zL w.heap.size w1))
 have e0 := cI w1 w.heap.size 0 M;have e1 := cI w1 w.heap.size 1 C;have e2 := cI w1 w.heap.size 2 B;have hB1 : Below w.heap.size w w1 := ae;have Nx := aa (hs.below hB1);have Dd := aa Jf;clear ar aA hb1 Jf
 go_loopw [10, 9] (fun i v wr => ∃ k : Nat, i = .int .i64 ((k : Int) + 1) ∧ k ≤ M ∧ rA M C B KP k = true ∧ wr.ownsRow w1.heap.size 73 4 v k (td M C B KP k) ∧ Below w1.heap.size w1 wr) (fun i _ _ => M + 1 - (intOf i).toNat)
 case atStart => exact ⟨0, by go_num, by omega, rfl, World.ownsRow_nil _ _ _ _, ae⟩
 case round =>
  obtain ⟨k, rfl, hk, SX, hown, hB⟩ := hrel;obtain ⟨A0, lm, rfl, vK, rV⟩ := aX hown;have hsz := hB.size;have f0 := cT hB e0 hz1;have f1 := cT hB e1 hz1;have f2 := cT hB e2 hz1;have jm := aa (Nx.out.below hB);have HGr := aa (Dd.out.grow hB);have U6 := aa SX;have hBr : Below w.heap.size w wr := hB1.trans (hB.mono oM);clear SX;by_cases hlt : k < M
  ·have hle : (k : Int) + 1 ≤ (M : Int) := by omega
   have hrs := tz M C B KP k;rw [U6.out, Bool.true_and] at hrs;have hst := BJ M C B KP k;have her := CW M C B KP ((k : Int) + 1);have hk1 := fun W hs' yv => Hak.out ((k : Int) + 1) oM hle g cp hcp W hs' yv;obtain ⟨⟨a0, a1, a2, a3⟩, ha⟩ : ∃ a, a = gH M C B KP ((k : Int) + 1) := ⟨_, rfl⟩;rw [← ha] at hrs hst her;simp only [← ha] at hk1;simp only [rp, Er] at hk1 hst hrs her;have fV := aa hst;have Ky := aa hrs;have Hk1 := aa hk1;clear hst hrs hk1 ha;rcases her with rfl | rfl
   ·go_wp2_with (first
     | (go_at_call 40; refine (Hk1.out _ (jm.out.below ae) (HGr.out.grow ae)).mono ?_; rintro e' w5 ⟨rfl, hb5⟩; obtain ⟨bX, cw, hs5⟩ := bC hb5; (try simp at hs5))
     | (at_builtin; refine aK rfl _ _ 66 rfl w1.heap.size 73 i0 _ 4 32 Tryz.underlying66 hi fF fw fD rfl dM (.slice A0 k lm) k (td M C B KP k) rfl (own_below hown ae) (some ⟨w5.heap.size + 1, 0, none⟩) 1 1 [.int .i64 ((k : Int) + 1), .int .i64 a0, .int .i64 a1, .int .i64 a2] rfl _ (KV (by go_simp) (by go_simp) (by go_simp) (by go_simp)) (by simp [Value.oneCell']) (by unfold maxLen; omega) oM (by simp; omega) w1.heap.size w1 ae (Nat.le_refl _) ?_; intro v' w6 aW hb6 lL))
    exact ⟨⟨k + 1, by go_num, by omega, by rw [Ky.out]; rfl, by rw [fV.out]; exact aW, ae⟩, by simp [intOf]; omega⟩
   ·go_wp2_with (first
     | (go_at_call 40; refine (Hk1.out _ (jm.out.below ae) (HGr.out.grow ae)).mono ?_; rintro e' w5 ⟨rfl, hb5⟩; obtain ⟨bX, cw, hs5⟩ := bC hb5; (try simp at hs5)))
    rw [HQ.out];unfold kG;rw [Int.toNat_natCast, GJ (k := k + 1) (n := M) (by rw [Ky.out]; rfl) oM, if_neg sM];exact ⟨rfl, ae⟩
  ·obtain rfl : M = k := by omega
   obtain ⟨A, Mc, Jv, hr⟩ := mZ hown;injection Jv with Jv e2' e3'
   subst Jv e3';have Hr := aa hr;clear hr hown;go_wp2_with fail;rw [HQ.out];unfold kG;rw [Int.toNat_natCast, U6.out, if_pos rfl];exact ⟨g, cp, A0, lm, rfl, HGr.out, by omega, hcp, hcm, Hr.out, hBr⟩
theorem Ef (T C B : Int) (b n cap : Nat) (w : World) (hv : aC T C B) (hs : ai w) (hn : ah T C B 7 = (n : Int)) :
  Calls Tryz.prog 41 #[(.agg #[.int .i64 T, .int .i64 C, .int .i64 B]), .slice (some ⟨b, 0, none⟩) n cap] w (cd (.bool true) w) := by
 have hpos := hs.pos;have HN := aa hn;clear hn;go_enter Tryz.func41, Tryz.ntmps41;go_wp2_with (first
  | (go_at_call 18; refine rB (cZ T C B _ hv (hs.below ae)) ?_; intro w1 hb1 ar aA hs1; (try simp at hs1); have hz1 := zL w.heap.size w1; have hq1 := zL 0 w1)
  | (go_at_call 19; refine (fM T C B _ hv (hs.below ae)).mono ?_; rintro e w2 ⟨rfl, hb2⟩; rw [HN.out]; obtain ⟨aH, aL, hs2⟩ := bC hb2; (try simp at hs2)))
 go_ret;exact ⟨rfl, ae⟩
def jw (T C B : Int) (ws : List W3) (k : Nat) : List Int := (List.range k).map (fun i : Nat => (ws.getD (fG T C B 4 (i : Nat) 0).toNat z3).r + 1)
theorem zw (T C B : Int) (ws : List W3) (k : Nat) : jw T C B ws (k + 1) = jw T C B ws k ++ [(ws.getD (fG T C B 4 (k : Nat) 0).toNat z3).r + 1] := by unfold jw; rw [List.range_succ, List.map_append]; rfl
theorem sV (T C B : Int) (ws : List W3) (k : Nat) : (jw T C B ws k).length = k := by unfold jw; simp
theorem Ip : (Tryz.prog.info? 3).map (fun i => (i.zero, i.size, i.bytes)) = some (some (.int .i64 0), 1, 8) := by kernel_rfl
theorem KO (T C B : Int) (b n cap : Nat) (ws : List W3) (w : World) (hv : aC T C B) (hs : ai w) (hM : Mem b ws w) (hl : ws.length = n) (hnm : n ≤ 1000000) (hok : ∀ x ∈ ws, x.ok) (hn : ah T C B 7 = (n : Int)) :
  Calls Tryz.prog 17 #[(.agg #[.int .i64 T, .int .i64 C, .int .i64 B]), .slice (some ⟨b, 0, none⟩) n cap] w (mP (jw T C B ws T.toNat) w) := by
 have hp := hs.pos;have hb := hM.2.2;obtain ⟨f1, f2, -, -, f5, f6⟩ := hv.1;obtain ⟨M, rfl⟩ : ∃ M : Nat, T = (M : Int) := ⟨T.toNat, by omega⟩;rw [Int.toNat_natCast];obtain ⟨i0, hi, fF, fw, fD⟩ := info_parts Ip;have SB := fun W hs' => Ef M C B b n cap W hv hs' hn;have Hvr := aa SB;have HM := aa hM;have Hl := aa hl;have pd := aa hok;have HN := aa hn;clear SB hM hl hok hn;go_enter Tryz.func17, Tryz.ntmps17;go_wp2_with (first
  | (go_at_call 41; refine rB (Hvr.out _ (hs.below ae)) ?_; intro w1 hb1 ar aA hs1; (try simp at hs1); have hz1 := zL w.heap.size w1))
 have e0 := cI w1 w.heap.size 0 M;have e1 := cI w1 w.heap.size 1 C;have e2 := cI w1 w.heap.size 2 B;have hB1 : Below w.heap.size w w1 := ae;have HS := aa (hs.below hB1);have WZ := aa (HM.out.grow hB1);have hv1 := zL b w1;clear ar aA hb1
 go_loopw [6, 5] (fun i v wr => ∃ k : Nat, i = .int .i64 ((k : Int) + 1) ∧ k ≤ M ∧ wr.ownsRow w1.heap.size 3 1 v k ((jw M C B ws k).map (Value.int .i64)) ∧ Below w1.heap.size w1 wr) (fun i _ _ => M + 1 - (intOf i).toNat)
 case atStart => exact ⟨0, by go_num, by omega, World.ownsRow_nil _ _ _ _, ae⟩
 case round =>
  obtain ⟨k, rfl, hk, hown, hB⟩ := hrel;obtain ⟨A0, lm, rfl, vK, rV⟩ := aX hown;have hsz := hB.size;have f0 := cT hB e0 hz1;have f1 := cT hB e1 hz1;have f2 := cT hB e2 hz1;have jm := aa (HS.out.below hB);have Gi := aa (WZ.out.grow hB);by_cases hlt : k < M
  ·have hle : (k : Int) + 1 ≤ (M : Int) := by omega
   have hst := zw M C B ws k;have hin := jI M C B hv 4 dM (k : Nat) 0 oM (by show ((k : Nat) : Int) < (M : Int); omega) dM dM;rw [HN.out] at hin;have hsl := fun W hs' => pq M C B ((k : Int) + 1) W hv hs' oM oM;rw [show (k : Int) + 1 - 1 = (k : Nat) by omega] at hsl;obtain ⟨p, Bi⟩ : ∃ p : Nat, fG M C B 4 (k : Nat) 0 = (p : Int) := ⟨(fG M C B 4 (k : Nat) 0).toNat, by omega⟩;rw [Bi] at hsl hst hin;rw [Int.toNat_natCast] at hst;obtain ⟨Tm, hin1⟩ := hin;obtain ⟨x, hx⟩ : ∃ x, ws[p]? = some x := ⟨_, List.getElem?_eq_getElem (by rw [Hl.out]; omega)⟩;have hx0 : ws.getD p z3 = x := by rw [List.getD_eq_getElem?_getD, hx]; rfl
   rw [hx0] at hst;obtain ⟨-, -, hx2, hx3, -, -⟩ := pd.out x (List.mem_of_getElem? hx);have x1 := Gi.out.w1 hx;have SB := zL b wr;have hwx : wrap64 x.r = x.r := by unfold wrap64; omega
   have adU : IntKind.i64.wrap (x.r + 1) = x.r + 1 := IntWalk.i64_in _ oM;have Mw := aa hsl;have fV := aa hst;clear hsl hst Bi hx hx0;go_wp2_with (first
    | (go_at_call 34; refine (Mw.out _ (jm.out.below ae)).mono ?_; rintro e' w5 ⟨rfl, hb5⟩; obtain ⟨bX, cw, hs5⟩ := bC hb5; (try simp at hs5))
    | (at_builtin; refine aK rfl _ _ 47 rfl w1.heap.size 3 i0 _ 1 8 Tryz.underlying47 hi fF fw fD rfl dM (.slice A0 k lm) k ((jw M C B ws k).map (Value.int .i64)) rfl (own_below hown ae) (some ⟨w5.heap.size, 0, none⟩) 1 1 [.int .i64 (x.r + 1)] rfl _ (tH (by go_simp)) (by simp [Value.oneCell']) (by unfold maxLen; omega) oM (by simp; omega) w1.heap.size w1 ae (Nat.le_refl _) ?_; intro v' w6 aW hb6 lL))
   exact ⟨⟨k + 1, by go_num, by omega, by rw [fV.out, List.map_append]; exact aW, ae⟩, by simp [intOf]; omega⟩
  ·obtain rfl : M = k := by omega
   obtain ⟨A, cap', Jv, hr⟩ := mZ hown;injection Jv with Jv e2' e3'
   subst Jv e3';have Hr := aa hr;clear hr hown;go_wp2_with fail;go_ret;have hlen : (jw M C B ws M).length = M := sV _ _ _ _ _;exact ⟨A0, lm, by rw [hlen]; rfl, by rw [hlen]; exact Hr.out, fun b off e => by have := rV b off e; omega, ae⟩
theorem ni (c : Nat → Bool) (g : Nat → W3) (p : Nat) : ∀ (l : List Int) (o : List W3),
  (l.foldl (fun o a => if c a.toNat = true then o.set a.toNat (g a.toNat) else o) o).getD p z3 = if (l.any (fun a => a.toNat == p) && c p) = true ∧ p < o.length then g p else o.getD p z3
 | [], o => by simp
 | a :: l, o => by
  rw [List.foldl_cons, ni c g p l];have hlen : (if c a.toNat = true then o.set a.toNat (g a.toNat) else o).length = o.length := by split <;> simp
  rw [hlen];by_cases h : (l.any (fun a => a.toNat == p) && c p) = true ∧ p < o.length
  ·rw [if_pos h, if_pos ⟨by rw [List.any_cons]; simp at h ⊢; exact ⟨Or.inr h.1.1, h.1.2⟩, h.2⟩]
  ·rw [if_neg h];by_cases hp : a.toNat = p
   ·subst hp;by_cases hc : c a.toNat = true
    ·by_cases hl : a.toNat < o.length
     ·rw [if_pos hc, if_pos ⟨by simp [List.any_cons, hc], hl⟩];simp [List.getD_eq_getElem?_getD, List.getElem?_set_self hl]
     ·rw [if_pos hc, if_neg (fun h => hl h.2)];rw [List.getD_eq_getElem?_getD, List.getD_eq_getElem?_getD, List.getElem?_eq_none (by simp; omega), List.getElem?_eq_none oM]
    ·rw [if_neg hc, if_neg (fun h => by simp [hc] at h)]
   ·have e : ((a :: l).any (fun a => a.toNat == p) && c p) = (l.any (fun a => a.toNat == p) && c p) := (by rw [List.any_cons, show (a.toNat == p) = false from beq_eq_false_iff_ne.2 hp, Bool.false_or]);rw [e, if_neg h];split
    ·simp only [List.getD_eq_getElem?_getD];rw [List.getElem?_set_ne hp]
    ·rfl
def kj (l : List Int) (p : Nat) : Bool := l.any (fun a => a.toNat == p)
theorem jB (T C B : Int) (ws : List W3) (p : Nat) (hp : p < ws.length) : (kr T C B ws).getD p z3 = if kj (aY T C B) p = true then aj T C B ws p else ws.getD p z3 := by
 have h := ni (fun _ => true) (aj T C B ws) p (aY T C B) ws;simp only [Bool.and_true, if_true, hp, and_true] at h;exact h
theorem wI (T C B : Int) (ws : List W3) : (kr T C B ws).length = ws.length := by
 have h : ∀ (l : List Int) (o : List W3), (l.foldl (mg T C B ws) o).length = o.length := by
  intro l
  induction l with
  | nil => exact fun o => rfl
  | cons a l ih => intro o; rw [List.foldl_cons, ih]; simp [mg]
 exact h _ _
theorem Ev (T C B : Int) (ws : List W3) : (lC T C B ws).length = ws.length := by
 have h : ∀ (l : List Int) (o : List W3), (l.foldl (lD ws) o).length = o.length := by
  intro l
  induction l with
  | nil => exact fun o => rfl
  | cons a l ih => intro o; rw [List.foldl_cons, ih]; unfold lD; split <;> simp
 exact (h _ _).trans (wI _ _ _ _)
theorem jA (T C B : Int) (ws : List W3) (p : Nat) (hp : p < ws.length) : (lC T C B ws).getD p z3 = if (kj (au T C B) p && bD (ws.getD p z3)) = true then ei (ws.getD p z3) else (kr T C B ws).getD p z3 := by
 have h := ni (fun p => bD (ws.getD p z3)) (fun p => ei (ws.getD p z3)) p (au T C B) (kr T C B ws);rw [wI] at h;simp only [hp, and_true] at h;exact h
theorem iJ (T C B : Int) (ws : List W3) (p : Nat) (hp : p < ws.length) : (dI T C B ws).getD p z3 = if kj (bu T C B) p = true then z3 else (lC T C B ws).getD p z3 := by
 have h := ni (fun _ => true) (fun _ => z3) p (bu T C B) (lC T C B ws);rw [Ev] at h;simp only [Bool.and_true, if_true, hp, and_true] at h;exact h
def apart (T C B : Int) : Prop := (∀ a ∈ au T C B, kj (aY T C B) a.toNat = false ∧ kj (bu T C B) a.toNat = false) ∧ ∀ a ∈ aY T C B, kj (bu T C B) a.toNat = false
theorem JP : apart 3 8 2 := by
 have h : ((au 3 8 2).all (fun a => !kj (aY 3 8 2) a.toNat && !kj (bu 3 8 2) a.toNat) && (aY 3 8 2).all (fun a => !kj (bu 3 8 2) a.toNat)) = true := by decide +kernel
 simp only [Bool.and_eq_true, List.all_eq_true, Bool.not_eq_true'] at h;exact h
theorem kU {l : List Int} {p : Nat} (h : kj l p = true) : ∃ a ∈ l, a.toNat = p := by
 unfold kj at h;obtain ⟨a, ha, e⟩ := List.any_eq_true.1 h;exact ⟨a, ha, by simpa using e⟩
theorem je {l : List Int} {a : Int} (h : a ∈ l) : kj l a.toNat = true := List.any_eq_true.2 ⟨a, h, by simp⟩
theorem ub (T C B : Int) (ws : List W3) (p : Nat) : (aj T C B ws p).f = 0 := by
 unfold aj;simp only [];split
 ·rfl
 ·split
  ·rfl
  ·split
   ·split <;> rfl
   ·rfl
theorem jZ (T C B : Int) (ws : List W3) (p : Nat) (h : (ws.getD p z3).f = 0) : aj T C B ws p = ws.getD p z3 := by
 have hw : (aT (ws.getD p z3).f).1 = 0 := by rw [h]; rfl
 have e : aj T C B ws p = dV (ws.getD p z3) := by
  unfold aj;simp only [hw, if_true]
 rw [e];unfold dV;rw [← h]
theorem AA (x : W3) : bD (ei x) = false := rfl
theorem Po {a b : List W3} (hl : a.length = b.length) (h : ∀ p, p < a.length → a.getD p z3 = b.getD p z3) : a = b := by
 apply List.ext_getElem hl;intro i h1 h2;have := h i h1;rw [List.getD_eq_getElem?_getD, List.getD_eq_getElem?_getD, List.getElem?_eq_getElem h1, List.getElem?_eq_getElem h2] at this;exact this
section
variable {T C B : Int} (ha : apart T C B) (ws : List W3)
include ha
theorem l7 {a : Int} (h : a ∈ au T C B) (hp : a.toNat < ws.length) : (dI T C B ws).getD a.toNat z3 = if bD (ws.getD a.toNat z3) = true then ei (ws.getD a.toNat z3) else ws.getD a.toNat z3 := by
 obtain ⟨h1, h2⟩ := ha.1 a h;rw [iJ _ _ _ _ _ hp, jA _ _ _ _ _ hp, jB _ _ _ _ _ hp, h1, h2, je h];simp
theorem tx {a : Int} (h : a ∈ aY T C B) (hp : a.toNat < ws.length) : (dI T C B ws).getD a.toNat z3 = aj T C B ws a.toNat := by
 have h2 := ha.2 a h;have h3 : kj (au T C B) a.toNat = false := by
  cases hs : kj (au T C B) a.toNat with
  | false => rfl
  | true =>
   obtain ⟨b, hb, e⟩ := kU hs;have := (ha.1 b hb).1;rw [e, je h] at this;cases this
 rw [iJ _ _ _ _ _ hp, jA _ _ _ _ _ hp, jB _ _ _ _ _ hp, h2, h3, je h];simp
omit ha in
theorem tu {a : Int} (h : a ∈ bu T C B) (hp : a.toNat < ws.length) : (dI T C B ws).getD a.toNat z3 = z3 := by
 rw [iJ _ _ _ _ _ hp, je h];rfl
end
section
variable {T C B : Int}
def JW (T C B : Int) (u ws : List W3) : Prop := ∀ p : Nat, ah T C B 4 ≤ (p : Int) → u.getD p z3 = ws.getD p z3
theorem uK {u ws : List W3} {p : Nat} (h : ∀ q : Nat, p ≤ q → u.getD q z3 = ws.getD q z3) : ∀ k, dQ u p k = dQ ws p k
 | 0 => rfl
 | k + 1 => by
  unfold dQ;rw [uK h k, h (p + 2 + 3 * k) oM, h (p + 2 + 3 * k + 1) oM, h (p + 2 + 3 * k + 2) oM]
theorem zB (hv : aC T C B) {who : Int} {p : Nat} (hn : aD T C B who ≠ 0) (hp : aF T C B who = p) : ah T C B 4 ≤ (p : Int) := by
 rw [← hp];have e5 : ah T C B 5 = ah T C B 4 + cY T C B 4 := rfl;have e6 : ah T C B 6 = ah T C B 5 + cY T C B 5 := rfl;have l4 := (dF T C B hv.1 4).1;have l5 := (dF T C B hv.1 5).1;unfold aD at hn;unfold aF;by_cases hneg : iW T C B who < 0
 ·rw [if_pos hneg] at hn;exact absurd rfl hn
 rw [if_neg hneg];unfold iW at hneg ⊢;by_cases h9 : 9 ≤ who
 ·simp only [if_pos h9] at hneg ⊢;unfold fG at hneg ⊢;split
  ·rename_i h;rw [show gq 6 = 32 from rfl];omega
  ·rename_i h;rw [if_neg h] at hneg;omega
 ·simp only [if_neg h9] at hneg ⊢;unfold fG at hneg ⊢;split
  ·rename_i h;rw [show gq 4 = 104 from rfl];omega
  ·rename_i h;rw [if_neg h] at hneg;omega
theorem BO (hv : aC T C B) {u ws : List W3} (h : JW T C B u ws) (who : Int) : gK T C B u who = gK T C B ws who := by
 unfold gK;by_cases hN : aD T C B who = 0
 ·rw [if_pos hN, if_pos hN]
 ·obtain ⟨p, hP, -, -, -⟩ := kv T C B who hv hN;have hge := zB hv hN hP;have hP' : (aF T C B who).toNat = p := by rw [hP]; exact Int.toNat_natCast p
  have hs : ∀ q : Nat, p ≤ q → u.getD q z3 = ws.getD q z3 := fun q hq => h q oM;rw [if_neg hN, if_neg hN, hP', hs p (Nat.le_refl _), hs (p + 1) oM, uK hs]
theorem vD (hv : aC T C B) {u ws : List W3} (h : JW T C B u ws) {p : Nat} (hp : u.getD p z3 = ws.getD p z3) : aj T C B u p = aj T C B ws p := by
 unfold aj;rw [hp];simp only [BO hv h]
theorem N1 (hv : aC T C B) {p : Nat} (h : kj (aY T C B) p = true) : (p : Int) < ah T C B 4 := by
 obtain ⟨a, ha, rfl⟩ := kU h;have := ua hv (pI ha);omega
theorem Eu (hv : aC T C B) (ha : apart T C B) {u ws : List W3} (hl : u.length = ws.length) (hm : ∀ p, kj (aY T C B) p = true → u.getD p z3 = ws.getD p z3 ∨ u.getD p z3 = aj T C B ws p) (ho : ∀ p, kj (aY T C B) p = false → u.getD p z3 = ws.getD p z3) : dI T C B u = dI T C B ws := by
 have hsd : JW T C B u ws := fun p hp => ho p (by
  cases h : kj (aY T C B) p with
  | false => rfl
  | true =>
   have := N1 hv h;omega)
 refine Po (by rw [fP, fP, hl]) (fun p hp => ?_);rw [fP] at hp;rw [iJ _ _ _ _ _ hp, iJ _ _ _ _ _ (hl ▸ hp), jA _ _ _ _ _ hp, jA _ _ _ _ _ (hl ▸ hp), jB _ _ _ _ _ hp, jB _ _ _ _ _ (hl ▸ hp)];cases h : kj (aY T C B) p with
 | false => simp only [ho p h, Bool.false_eq_true, if_false]
 | true =>
  have hs : kj (au T C B) p = false := by
   cases q : kj (au T C B) p with
   | false => rfl
   | true =>
    obtain ⟨a, h1, rfl⟩ := kU q;rw [(ha.1 a h1).1] at h;cases h
  rw [hs];simp only [if_true, Bool.false_and, Bool.false_eq_true, if_false];rcases hm p h with e | e
  ·rw [vD hv hsd e]
  ·rw [jZ T C B u p (by rw [e]; exact ub _ _ _ _ _), e]
theorem Et {u ws : List W3} (ha : apart T C B) (hl : u.length = ws.length) (hm : ∀ p, kj (aY T C B) p = true → u.getD p z3 = aj T C B ws p) (hs : ∀ p, kj (au T C B) p = true → u.getD p z3 = ws.getD p z3 ∨ (bD (ws.getD p z3) = true ∧ u.getD p z3 = ei (ws.getD p z3))) (ho : ∀ p, kj (aY T C B) p = false → kj (au T C B) p = false → kj (bu T C B) p = false → u.getD p z3 = ws.getD p z3) : dI T C B u = dI T C B ws := by
 refine Po (by rw [fP, fP, hl]) (fun p hp => ?_);rw [fP] at hp;have hp2 : p < ws.length := hl ▸ hp;by_cases h3 : kj (bu T C B) p = true
 ·obtain ⟨a, h, rfl⟩ := kU h3;rw [tu _ h hp, tu _ h hp2]
 by_cases h2 : kj (au T C B) p = true
 ·have q := hs p h2;obtain ⟨a, h, rfl⟩ := kU h2;rw [l7 ha _ h hp, l7 ha _ h hp2];rcases q with q | ⟨q1, q2⟩
  ·rw [q]
  ·rw [q2, AA, if_neg sM, if_pos q1]
 by_cases h1 : kj (aY T C B) p = true
 ·have q := hm p h1;obtain ⟨a, h, rfl⟩ := kU h1;rw [tx ha _ h hp, tx ha _ h hp2, jZ T C B u _ (by rw [q]; exact ub _ _ _ _ _), q]
 ·simp only [Bool.not_eq_true] at h1 h2 h3;rw [iJ _ _ _ _ _ hp, iJ _ _ _ _ _ hp2, jA _ _ _ _ _ hp, jA _ _ _ _ _ hp2, jB _ _ _ _ _ hp, jB _ _ _ _ _ hp2, h1, h2, h3];simpa using ho p h1 h2 h3
end
end Go.Proofs.YtapjfhbonfehpaaGreatDoor
