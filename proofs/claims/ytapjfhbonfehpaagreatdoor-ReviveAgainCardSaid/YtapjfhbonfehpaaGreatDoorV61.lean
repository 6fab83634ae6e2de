/- Package revive: Again. -/
import Derived.Test.YtapjfhbonfehpaaGreatDoorV54
import Derived.Test.YtapjfhbonfehpaaGreatDoorV60
set_option linter.unusedSimpArgs false
set_option linter.unusedVariables false
set_option maxRecDepth 100000
set_option maxHeartbeats 40000000
namespace Go.Proofs.YtapjfhbonfehpaaGreatDoor
open Go.RowKit Go.Maps
def zP (M : af) : List Value := [.slice ((M)).mem.pA ((M)).mem.hs.length ((M)).mem.pc, .slice ((M)).mem.vA ((M)).mem.vs.length ((M)).mem.vc, .slice ((M)).ln.fA ((M)).ln.first.length ((M)).ln.fc, .slice ((M)).ln.lA ((M)).ln.logs.length ((M)).ln.lc, .map ((M)).ln.asks, .slice ((M)).sA ((M)).steps.length ((M)).sc, .int .i64 ((M)).crashes]
theorem Py {D : Nat} {M : af} {W : World} (h : aB D (zP M) W) : W.cell? ⟨D, 0, none⟩ = some (.slice M.mem.pA M.mem.hs.length M.mem.pc) ∧ W.cell? ⟨D, 1, none⟩ = some (.slice M.mem.vA M.mem.vs.length M.mem.vc) ∧ W.cell? ⟨D, 2, none⟩ = some (.slice M.ln.fA M.ln.first.length M.ln.fc) ∧ W.cell? ⟨D, 3, none⟩ = some (.slice M.ln.lA M.ln.logs.length M.ln.lc) ∧ W.cell? ⟨D, 4, none⟩ = some (.map M.ln.asks) ∧ W.cell? ⟨D, 5, none⟩ = some (.slice M.sA M.steps.length M.sc) ∧ W.cell? ⟨D, 6, none⟩ = some (.int .i64 M.crashes) ∧ ∀ o, W.frozen? ⟨D, o, none⟩ = false := ⟨h.at (j := 0) rfl, h.at (j := 1) rfl, h.at (j := 2) rfl, h.at (j := 3) rfl, h.at (j := 4) rfl, h.at (j := 5) rfl, h.at (j := 6) rfl, h.2.1⟩
theorem jh {D b o : Nat} (hne : ¬ D = b) : ∀ (l : List Value) (k : Nat) (w : World), (aQ w D k l).cell? ⟨b, o, none⟩ = w.cell? ⟨b, o, none⟩
 | [], _, _ => rfl
 | x :: l, k, w => by
  show (aQ (w.setCell ⟨D, k, none⟩ x) D (k + 1) l).cell? _ = _;rw [jh hne l (k + 1), World.cell?_setCell_other _ _ _ _ (by intro e; injection e with e _; exact hne e)]
def F9 (R : List W3) (N : Nat) (w : World) (e : Ending) (w' : World) : Prop := ∃ v : Value, e = .returned (.tuple #[v, .int .i64 0]) ∧ w'.ownsRow w.heap.size 56 3 v N (R.flatMap ig) ∧ Below w.heap.size w w'
theorem Ec {T C B : Int} {N n : Nat} {ws R : List W3} {s0 : Nat} {p0 : Int} {s : RS} {M : af} {w : World} (hg : Good T C B N ws R s0 p0 s n) (hs0 : s0 ≤ 900) (hM : dc M s.1) (hR : M.R w) (hc : s.1.cur = R) (hN : N ≤ 4096) : Calls Tryz.prog 31 #[(oy M)] w fun e w' => ∃ v : Value, e = .returned v ∧ w'.ownsRow w.heap.size 56 3 v R.length (R.flatMap ig) ∧ Below w.heap.size w w' := by
 have hl : R.length = M.mem.hs.length := by rw [← hc, L9, bN hM.1]
 have h2 := hg.cn.hs;have h3 := bN hM.1;refine Cf M R w hR.1 hl oM (fun k x hx W hW => ?_);obtain ⟨j, h, g, hh, hj, OC, Wo, rfl⟩ := Ed hg hs0 hM (by rw [hc]; exact hx);exact EQ M k j h g W hW hh hj OC Wo
theorem zv {t : Nat} {u : List W3} {M M0 : af} (h : M0.fresh t u) (e1 : M.mem = M0.mem) (e2 : M.ln = M0.ln) (e3 : M.ak = M0.ak) (e4 : M.steps.length = t) : dc M (MW.new t u) := by
 obtain ⟨h1, h2, h3, h4, h5, h6, h7⟩ := wu h;refine ⟨by rw [e1]; exact h1, by rw [e1]; exact h2, by rw [e2]; exact h3, by rw [e2]; exact h4, by rw [e3]; exact h5, ?_, by rw [e2]; exact h7⟩;rw [e4];exact (List.length_replicate ..).symm
theorem xF {t : Nat} {C B : Int} {N : Nat} {u R : List W3} {M : af} {w : World} (L : Lay (t : Int) C B N u R) (lM : 0 < N) (hs0 : (jP (t : Int) C B).sig ≤ 900) (E9 : (jP (t : Int) C B).phi ≤ 1000000) (hs : ai w) (hR : M.R w) (hM : dc M (MW.new t u)) :
  Calls Tryz.prog 29 #[(.agg #[.int .i64 (t : Int), .int .i64 C, .int .i64 B]), (oy M), .int .i64 16777216] w fun e w' => ∃ M2 : af, e = .returned (.tuple #[(oy M2), .int .i64 0]) ∧ (∀ W, M2.R W → Calls Tryz.prog 31 #[(oy M2)] W fun e w' => ∃ v : Value, e = .returned v ∧ w'.ownsRow W.heap.size 56 3 v R.length (R.flatMap ig) ∧ Below W.heap.size W w') ∧ M2.R w' ∧ (∀ D, D < w.heap.size → M.off D → M2.off D) ∧ Below w.heap.size w w' := by
 have hg := Good.run L (pH L) 16777216;have hc := (hg.ends oM).2;refine (pw (n := 16777216) L lM hs0 E9 hs hR (by rw [Int.toNat_natCast]; exact hM) oM).mono ?_;rintro e w' ⟨M2, rfl, h1, h2, h4, h3⟩;exact ⟨M2, rfl, fun W hW => Ec hg hs0 h1 hW hc (by have := L.v.2; have := L.n; omega), h2, h4, h3⟩
theorem xH {t : Nat} {C B : Int} {N cut cap : Nat} {A : Option Addr} {ws R : List W3} {w : World} (L : Lay (t : Int) C B N ws R) (lM : 0 < N) (hs0 : (jP (t : Int) C B).sig ≤ 900) (E9 : (jP (t : Int) C B).phi ≤ 1000000) (hcut : cut ≤ 65535) (hs : ai w) (hr : Rd w w.heap.size 3 A N (ws.flatMap ig)) :
  Calls Tryz.prog 8 #[(.agg #[.int .i64 (t : Int), .int .i64 C, .int .i64 B]), .slice A N cap, .int .i64 (cut : Int)] w (F9 R N w) := by
 have hN4 : N ≤ 4096 := by have := L.v.2; have := L.n; omega
 have ht : 1 ≤ t ∧ t ≤ 8 := by have := L.v.1; unfold Fit at this; omega
 have hnew := fun W (hW : Below w.heap.size w W) => wH (t : Int) C B W (hs.below hW) L.v;have hsz := fun W (hW : Below w.heap.size w W) => fM (t : Int) C B W L.v (hs.below hW);have hmn := fun W (hW : Below w.heap.size w W) => zQ t N A cap ws W L.len ((hr.below hW).more hW.size) ht.1 ht.2 oM hN4;have hal := fun (W : World) (M : af) (hW : Below w.heap.size w W) (hf : M.fresh t ws) (hM : M.R W) => pw (n := cut) L lM hs0 E9 (hs.below hW) hM (by rw [Int.toNat_natCast]; exact wu hf) oM;have hgd := Good.run L (pH L) cut;have xa := fun (W : World) (M : af) (hM : dc M (dh (t : Int) C B N cut (fH (t : Int) C B N ws)).1) (hMR : M.R W) => Ch M (cut : Int) W hMR oM oM (by have h1 := bN hM.2.1; have h2 := hgd.cn.vs; rw [Int.toNat_natCast] at h2; have h3 : (dh (t : Int) C B N cut (fH (t : Int) C B N ws)).1.vs.length = t := h2; omega) (by have h1 := bN hM.2.1; have h2 := hgd.cn.vs; rw [Int.toNat_natCast] at h2; have h3 : (dh (t : Int) C B N cut (fH (t : Int) C B N ws)).1.vs.length = t := h2; omega) (by have h1 := bN hM.2.1; have h2 := hM.2.2.2.2.2.1; omega) (by have h1 := bN hM.1; have h2 := hM.2.2.2.1; omega) (by have h1 := bN hM.1; have h2 : (dh (t : Int) C B N cut (fH (t : Int) C B N ws)).1.hs.length = N := hgd.cn.hs; omega) (by have h1 := bN hM.1; have h2 : (dh (t : Int) C B N cut (fH (t : Int) C B N ws)).1.hs.length = N := hgd.cn.hs; omega) (qX (ch := (cut : Int)) L hgd hs0 hM).2.2.1 (qX (ch := (cut : Int)) L hgd hs0 hM).2.2.2;have TS := fun (W : World) (M M0 m : af) (hW : Below w.heap.size w W) (hMR : M.R W) (hm : dc m (dh (t : Int) C B N cut (fH (t : Int) C B N ws)).1) (hf : M0.fresh m.mem.vs.length (fY (cut : Int) m.ln.first m.ln.logs m.ln.logs.length) ∧ M.mem = M0.mem ∧ M.ln = M0.ln ∧ M.ak = M0.ak ∧ M.steps = m.steps) => by
  have h1 := bN hm.2.1;have h2 := hgd.cn.vs;rw [Int.toNat_natCast] at h2;have h3 : (dh (t : Int) C B N cut (fH (t : Int) C B N ws)).1.vs.length = t := h2;have h4 := hm.2.2.2.2.2.1;have h5 : m.mem.vs.length = t := by omega
  rw [h5] at hf;exact xF (M := M) (qX (ch := (cut : Int)) L hgd hs0 hm).2.1 lM hs0 E9 (hs.below hW) hMR (zv hf.1 hf.2.1 hf.2.2.1 hf.2.2.2.1 (by rw [hf.2.2.2.2]; omega))
 have HN := aa L.n;have hRl : R.length = N := L.rlen;have yN := aa hnew;have Bn := aa hsz;have Hmn := aa hmn;have WT := aa hal;have Hcr := aa xa;have acm := aa TS;have HRl := aa hRl;have g0 : ¬ ((cut : Int) < 0) := by omega
 have g1 : ¬ ((N : Int) < (N : Int)) := by omega
 clear hnew hsz hmn hal xa TS hgd hs0 E9 hr hN4 ht hcut hRl;go_enter Tryz.func8, Tryz.ntmps8;go_upto_region 11 with (first
  | (go_at_call 27; refine (yN.out _ ae).mono ?_; rintro e w1 ⟨p, rfl, hp, hb1⟩; clear hp; obtain ⟨ar, aA, hs1⟩ := bC hb1; (try simp at hs1); have hz1 := zL w.heap.size w1)
  | (go_at_call 19; refine (Bn.out _ ae).mono ?_; rintro e w2 ⟨rfl, hb2⟩; rw [HN.out]; obtain ⟨aH, aL, hs2⟩ := bC hb2; (try simp at hs2); have hz2 := zL w.heap.size w2)
  | (go_at_call 28; refine (Hmn.out _ ae).mono ?_; rintro e w3 ⟨M1, rfl, hfr, hMR, T6, hb3⟩; have yO := aa hfr; have HMR := aa hMR; clear hfr hMR T6; obtain ⟨cN, cH, hs3⟩ := bC hb3; (try simp at hs3); have hz3 := zL w.heap.size w3))
 obtain ⟨D, hD⟩ : ∃ D, D = w3.heap.size := ⟨_, rfl⟩;obtain ⟨w4, hw4⟩ : ∃ W : World, W = w3.alloc (.cells #[.slice ((M1)).mem.pA ((M1)).mem.hs.length ((M1)).mem.pc, .slice ((M1)).mem.vA ((M1)).mem.vs.length ((M1)).mem.vc, .slice ((M1)).ln.fA ((M1)).ln.first.length ((M1)).ln.fc, .slice ((M1)).ln.lA ((M1)).ln.logs.length ((M1)).ln.lc, .map ((M1)).ln.asks, .slice ((M1)).sA ((M1)).steps.length ((M1)).sc, .int .i64 ((M1)).crashes] 96) := ⟨_, rfl⟩;have hB3 : Below w.heap.size w w3 := ae;have hb4 : Below w3.heap.size w3 w4 := by rw [hw4]; exact Below.alloc (Below.refl _ _) (Nat.le_refl _) _
 have hs4 : w4.heap.size = w3.heap.size + 1 := by rw [hw4]; simp
 have OZ : aB D (zP M1) w4 := by rw [hw4, hD]; exact aB.made w3 _ _
 have jr := aa (hB3.trans (hb4.mono oM));have vd := aa (HMR.out.below hb4);have HO4 : Hid (M1.off D) := aa (af.off_new HMR.out oM);have l0 := cJ hw4 w.heap.size 0 (t : Int);have l1 := cJ hw4 w.heap.size 1 C;have l2 := cJ hw4 w.heap.size 2 B;have hgz : w.heap.size ≤ D := by omega
 have iZ := zL w.heap.size w4;have Lp := zL D w4;have nD : ¬ D = w.heap.size := by omega
 have nD' : ¬ w.heap.size = D := by omega
 have QK := aa OZ;have Vs := aa (WT.out w4 M1 jr.out yO.out vd.out);obtain ⟨c0, c1, c2, c3, c4, c5, c6, cf⟩ := Py OZ;rw [← hw4, ← hD];clear hD hw4 hB3 hb4 hs4 OZ ar aA hb1 hs1 hz1 aH aL hb2 hs2 hz2 cN cH hb3 hs3 hz3 yN Bn Hmn WT HMR yO;go_upto_region 12 with (first
  | (go_at_call 29; refine Vs.out.mono ?_; rintro e w5 ⟨M2, rfl, SH, Fq, T4, hb5⟩; have U5 := aa SH; have u9 := aa Fq; have HO5 := aa T4; clear SH Fq T4; obtain ⟨bX, cw, hs5⟩ := bC hb5; have lF := zL w.heap.size w5; have Od := zL D w5))
 obtain ⟨w6, dD⟩ : ∃ W : World, W = aQ w5 D 0 (zP M2) := ⟨_, rfl⟩;have Qt := QK.out.below hb5;have OY : aB D (zP M2) w6 := by rw [dD]; exact Qt.fill rfl
 have hO6 : M2.off D := HO5.out _ Lp HO4.out;have TY : M2.R w6 := by rw [dD]; exact af.R.fill u9.out hO6 Qt.some (by exact Nat.le_refl 7) 0 (by exact Nat.le_refl 7)
 have pP : Below w.heap.size w w6 := by rw [dD]; exact aZ hgz _ _ (jr.out.trans (hb5.mono oM))
 have k0 : w6.cell? ⟨w.heap.size, 0, none⟩ = some (.int .i64 (t : Int)) := by rw [dD]; exact (jh nD _ _ _).trans ((hb5.cell (p := ⟨w.heap.size, 0, none⟩) iZ).trans l0)
 have k1 : w6.cell? ⟨w.heap.size, 1, none⟩ = some (.int .i64 C) := by rw [dD]; exact (jh nD _ _ _).trans ((hb5.cell (p := ⟨w.heap.size, 1, none⟩) iZ).trans l1)
 have k2 : w6.cell? ⟨w.heap.size, 2, none⟩ = some (.int .i64 B) := by rw [dD]; exact (jh nD _ _ _).trans ((hb5.cell (p := ⟨w.heap.size, 2, none⟩) iZ).trans l2)
 have zX : w.heap.size < w6.heap.size := by rw [dD, aP]; exact lF
 have aaC : D < w6.heap.size := by rw [dD, aP]; exact Od
 simp only [aQ, zP, Nat.zero_add, Nat.reduceAdd] at dD;rw [← dD];have HX6 := aa OY;have F5 := aa TY;have Eb := aa pP;have HO6 := aa hO6;obtain ⟨d0, d1, d2, d3, d4, d5, d6, df⟩ := Py OY;clear dD Qt OY hO6 TY pP bX cw hb5 hs5 lF Od QK u9 HO5 HO4 Vs vd jr l0 l1 l2 c0 c1 c2 c3 c4 c5 c6 cf iZ Lp;go_upto_region 14 with fail
 go_region_with (first
  | (go_at_call 30; refine (Hcr.out _ M2 U5.out (by first | with_reducible exact F5.out | with_reducible exact F5.out.drew)).mono ?_; rintro e w7 ⟨M3, M0, rfl, Tw, hR7, hO7, il⟩; have ed : Below _ _ w7 := (by first | with_reducible exact dx il | exact il); have vH := (ed).size; (try simp at vH); have ach := aa Tw; have MA := aa hR7; have HO7 : Hid (M3.off D) := aa (hO7 D aaC); have KA := aa (Eb.out.trans (ed.mono oM)); clear Tw hR7 hO7; obtain ⟨qQ, qO⟩ := bE ed; have Qj := zL w.heap.size w7; have adG := zL D w7)
  | (go_at_call 29; refine (acm.out _ M3 M0 M2 (by first | with_reducible exact KA.out | with_reducible exact KA.out.drew) (by first | with_reducible exact MA.out | with_reducible exact MA.out.drew) U5.out ach.out).mono ?_; rintro e w8 ⟨M4, rfl, hW8, TX, hO8, Ja⟩; have DJ : Below _ _ w8 := (by first | with_reducible exact dx Ja | exact Ja); have Ot := (DJ).size; (try simp at Ot); have HW8 := aa hW8; have HR8 := aa TX; have HO8 : Hid (M4.off D) := aa (hO8 D (by first | omega | (simp; omega)) HO7.out); have Ke := aa (KA.out.trans (DJ.mono KA.out.size)); clear hW8 TX hO8; obtain ⟨I8, IY⟩ := bE DJ; have N8 := zL w.heap.size w8; have aaz := zL D w8))
 all_goals obtain ⟨w9, Ol⟩ : ∃ W : World, W = aQ w8 D 0 (zP M4) := ⟨_, rfl⟩
 all_goals have TT := (HX6.out.below ed).below DJ
 all_goals have Qs : aB D (zP M4) w9 := by rw [Ol]; exact TT.fill rfl
 all_goals have hR9 : M4.R w9 := by rw [Ol]; exact af.R.fill HR8.out HO8.out TT.some (by exact Nat.le_refl 7) 0 (by exact Nat.le_refl 7)
 all_goals have Nf : Below w.heap.size w w9 := by rw [Ol]; exact aZ hgz _ _ Ke.out
 all_goals have yQ : D < w9.heap.size := by rw [Ol, aP]; exact aaz
 all_goals simp only [aQ, zP, Nat.zero_add, Nat.reduceAdd] at Ol
 all_goals rw [← Ol]
 all_goals have WY := aa hR9
 all_goals have Bo := aa Nf
 all_goals obtain ⟨f0, f1, f2, f3, f4, f5, f6, ff⟩ := Py Qs
 all_goals clear Ol TT Qs hR9 Nf qQ qO ed I8 IY DJ k0 k1 k2 d0 d1 d2 d3 d4 d5 d6 df
 all_goals go_wp2_with (first
  | (go_at_call 31; refine (HW8.out _ (by first | with_reducible exact WY.out | with_reducible exact WY.out.drew)).mono ?_; rintro e wA ⟨v, rfl, hown, TM⟩; have dR := aa hown; clear hown))
 all_goals have wY := wK dR.out Bo.out.size
 all_goals rw [HRl.out] at wY
 all_goals exact bodyPost_ret (v := .tuple #[v, .int .i64 0]) (by simp [results, Tryz.results8, go_sem]; (try go_simp)) rfl ⟨v, rfl, wY, Bo.out.trans (TM.mono Bo.out.size)⟩
end Go.Proofs.YtapjfhbonfehpaaGreatDoor
