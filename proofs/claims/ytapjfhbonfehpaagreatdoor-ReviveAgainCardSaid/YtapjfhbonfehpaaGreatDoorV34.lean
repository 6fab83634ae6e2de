/- Package memory: with, finds. -/
import Derived.Test.YtapjfhbonfehpaaGreatDoorV13
import Derived.Test.YtapjfhbonfehpaaGreatDoorV30
set_option linter.unusedSimpArgs false
set_option linter.unusedVariables false
set_option maxRecDepth 100000
set_option maxHeartbeats 40000000
namespace Go.Proofs.YtapjfhbonfehpaaGreatDoor
open Go.RowKit Go.Maps
theorem wU : (Tryz.prog.info? 171).map (fun i => (i.zero, i.size, i.bytes)) = some (some (.agg #[.map none]), 1, 8) := by kernel_rfl
theorem Rd.set {α : Type} {w : World} {B b n k : Nat} {g : α → Value} {l : List α} (h : Rd w B 1 (some ⟨b, 0, none⟩) n (l.map g)) (hk : k < n) (a : α) : Rd (w.setCell ⟨b, k, none⟩ (g a)) B 1 (some ⟨b, 0, none⟩) n ((l.set k a).map g) := by
 obtain ⟨h1, h2⟩ := h;rw [List.length_map] at h1;refine ⟨by rw [List.length_map, List.length_set]; exact h1, fun hn => ?_⟩;obtain ⟨b', off, e, hB, hc⟩ := h2 hn;injection e with e
 injection e with e1 e2
 subst e1 e2;refine ⟨b, 0, rfl, hB, fun j u hu => ?_⟩;rw [List.getElem?_map] at hu;rw [Nat.zero_add];by_cases hj : j = k
 ·subst hj;rw [List.getElem?_set_self oM] at hu;injection hu with hu
  subst hu;obtain ⟨x, hx⟩ : ∃ x, l[j]? = some x := ⟨_, List.getElem?_eq_getElem oM⟩;have hold := hc j (g x) (by rw [List.getElem?_map, hx]; rfl);rw [Nat.zero_add] at hold;simp [go_sem, hold]
 ·rw [List.getElem?_set_ne (fun e => hj oM)] at hu;rw [World.cell?_setCell_other _ _ _ _ (by intro e; injection e with _ e; exact hj e.symm)];have := hc j u (by rw [List.getElem?_map]; exact hu);rwa [Nat.zero_add] at this
theorem xz {α : Type} (cur cs : List α) (h : cs.length = cur.length) : splice cur 0 cs = cs := by simp [splice, h]
theorem EC {w : World} {g n : Nat} {xs : List Value} {t : TypeId} (h : w.heap[g]? = some (.cells xs.toArray t (0, 0))) (hl : xs.length = n * 1) : Rd w w.heap.size 1 (some ⟨g, 0, none⟩) n xs :=
 ⟨hl, fun _ => ⟨g, 0, rfl, (Array.getElem?_eq_some_iff.1 h).1, fun j u hu => by
  rw [Nat.zero_add];simp only [World.cell?, h];simpa using hu⟩⟩
theorem frozen_of_row {w : World} {g : Nat} {xs : List Value} {t : TypeId} (h : w.heap[g]? = some (.cells xs.toArray t (0, 0))) (o : Nat) : w.frozen? ⟨g, o, none⟩ = false := by
 simp [World.frozen?, h]
theorem cell_of_row {w : World} {g k : Nat} {xs : List Value} {t : TypeId} (h : w.heap[g]? = some (.cells xs.toArray t (0, 0))) (hk : k < xs.length) : ∃ u, w.cell? ⟨g, k, none⟩ = some u := ⟨xs[k], by simp [World.cell?, h, hk]⟩
def aS.with (m : aS) (A : Option Addr) (c t : Nat) (a : eG) : aS := ⟨m.pA, m.pc, m.hs, A, c, m.vs.set t a⟩
theorem aS.with_R {m : aS} {w w' : World} {g t n : Nat} {a : eG} (h : m.R w) (hb : Below w.heap.size w w') (hn : m.vs.length = n) (hr : Rd w' w'.heap.size 1 (some ⟨g, 0, none⟩) n ((m.vs.set t a).map ze)) (ha : a.R m.hs.length w') : (m.with (some ⟨g, 0, none⟩) n t a).R w' := by
 have hF := h.below hb;have e1 : (m.vs.set t a).length = n := by rw [List.length_set, hn]
 refine ⟨hF.1, ?_⟩;show (m.vs.set t a).length ≤ n ∧ ((some ⟨g, 0, none⟩ : Option Addr) = none → (m.vs.set t a).length = 0) ∧ Rd w' w'.heap.size 1 (some ⟨g, 0, none⟩) (m.vs.set t a).length ((m.vs.set t a).map ze) ∧ ∀ x ∈ m.vs.set t a, x.R m.hs.length w';rw [e1];refine ⟨Nat.le_refl n, (fun e => by cases e), hr, (fun x hx => ?_)⟩;rcases List.mem_or_eq_of_mem_set hx with hx | rfl
 ·exact hF.2.2.2.2 x hx
 ·exact ha
theorem aS.with_rd {m : aS} {w : World} {g t n : Nat} {a : eG} (h : (m.with (some ⟨g, 0, none⟩) n t a).R w) (hn : m.vs.length = n) : Rd w w.heap.size 1 (some ⟨g, 0, none⟩) n ((m.vs.set t a).map ze) := by
 have h1 : Rd w w.heap.size 1 (some ⟨g, 0, none⟩) (m.vs.set t a).length ((m.vs.set t a).map ze) := h.2.2.2.1;rwa [List.length_set, hn] at h1
theorem tW (m : aS) (t : Nat) (a : eG) (w : World) (hR : m.R w) (ht : t < m.vs.length) (hn : m.vs.length ≤ 1000) (ha : a.R m.hs.length w) : Calls Tryz.prog 122 #[(.agg #[.slice (m).pA (m).hs.length (m).pc, .slice (m).vA (m).vs.length (m).vc]), .int .i64 ((t : Int) + 1), .agg #[.map a.v]] w fun e w' => ∃ g, e = .returned (.agg #[.slice m.pA m.hs.length m.pc, .slice (some ⟨g, 0, none⟩) m.vs.length m.vs.length]) ∧ w.heap.size ≤ g ∧ (m.with (some ⟨g, 0, none⟩) m.vs.length t a).R w' ∧ Below w.heap.size w w' := by
 obtain ⟨i0, hi, fF, fw, fD⟩ := info_parts wU;obtain ⟨pA, pc, hs, vA, vc, vs⟩ := m;obtain ⟨n, SC⟩ : ∃ n, n = vs.length := ⟨_, rfl⟩;simp only at ht hn ha;have HR := aa hR;have Ha := aa ha;obtain ⟨-, hvc, hvA, nh, -⟩ := hR;simp only at hvc hvA nh;rw [← SC] at nh ht hn hvc;simp only [← SC];have hxl : (vs.map ze).length = n * 1 := by rw [List.length_map, ← SC, Nat.mul_one]
 have hx1 : ∀ v ∈ vs.map ze, v.oneCell' = true := by
  intro v hv;obtain ⟨x, -, rfl⟩ := List.mem_map.1 hv;rfl
 have hsrc := Rd.src nh n (Nat.le_refl _);have abZ := aa hsrc;have QF := aa hxl;have Hvn := aa SC;have C9 := aa nh;have h0 : (0 : Int) ≤ (t : Int) := by omega
 have h1 : (t : Int) < (n : Int) := by omega
 have hw1 : IntKind.i64.wrap ((t : Int) + 1 - 1) = (t : Int) := by rw [show (t : Int) + 1 - 1 = (t : Int) by omega]; exact IntWalk.i64_in _ oM
 have hw2 : IntKind.i64.wrap (t : Int) = (t : Int) := IntWalk.i64_in _ oM;clear nh hsrc hxl SC ha;go_enter Tryz.func122, Tryz.ntmps122;go_wp2_with (first
  | (at_make; refine wpList_make_full _ rfl _ _ 88 rfl w.heap.size 171 i0 _ 1 Tryz.underlying88 hi fF fw _ _ _ _ n rfl rfl rfl rfl (by rw [fD]; omega) (by unfold maxLen; omega) (by simp; omega) ?_; intro w1 hown hgr; have hb1 := Below.grown (Below.refl _ _) hgr (Nat.le_refl _) (fun k hk => by cases hk); obtain ⟨ar, aA, hs1⟩ := bC hb1; (try simp at hs1); obtain ⟨hrow, -⟩ := BI hown; have hmz : (madeCells (Value.agg #[Value.map none]).cells (n * 1)).toList.length = n * 1 := hown.1; obtain ⟨cur, vJ⟩ : ∃ cur, cur = (madeCells (Value.agg #[Value.map none]).cells (n * 1)).toList := ⟨_, rfl⟩; rw [← vJ] at hrow hmz; have IC : w1.heap[w.heap.size + 1 + 1 + 1]? = some (.cells cur.toArray 171 (0, 0)) := (by simpa using hrow); have ac2 := aa IC; have Hmz := aa hmz; have hlt1 : w.heap.size + 1 + 1 + 1 < w1.heap.size := (Array.getElem?_eq_some_iff.1 IC).1; have hB1 : Below w.heap.size w w1 := (by first | exact ae); clear IC hrow hown hgr vJ hmz; have hz1 := zL w.heap.size w1)
  | (refine qp rfl (.tmp 12) (.tmp 14) 88 88 rfl 171 Tryz.underlying88 i0 hi 1 fw _ _ _ _ _ _ rfl rfl (w.heap.size + 1 + 1 + 1) 0 cur 171 ac2.out (vs.map ze) n (Nat.min_self _).symm QF.out (fun h0 => ⟨rfl, by obtain ⟨ad, e, hc⟩ := abZ.out h0; refine ⟨ad, e, fun j v hv => ?_⟩; rw [List.take_of_length_le (by rw [QF.out]; omega)] at hc; exact (hB1.cell (by obtain ⟨b, off, e2, hb, _⟩ := C9.out.2 oM; rw [e] at e2; injection e2 with e2; subst e2; unfold Addr.add; split <;> exact hb)).trans (hc j v hv)⟩) (by rw [QF.out, Hmz.out]; omega) hx1 (w.heap.size + 1 + 1 + 1) w1 (Below.refl _ _) (Nat.le_refl _) ?_; intro w2 hrow2 hB2; rw [xz cur (vs.map ze) (by rw [QF.out, Hmz.out])] at hrow2; have aH : ∀ b o, b < w.heap.size + 1 + 1 + 1 → w2.cell? ⟨b, o, none⟩ = w1.cell? ⟨b, o, none⟩ := (CV hB2).1; have aL : ∀ b o, b < w.heap.size + 1 + 1 + 1 → w2.frozen? ⟨b, o, none⟩ = w1.frozen? ⟨b, o, none⟩ := (CV hB2).2; have hlt2 : w.heap.size + 1 + 1 + 1 < w2.heap.size := (Array.getElem?_eq_some_iff.1 hrow2.out).1; have abu : Hid (Rd w2 w2.heap.size 1 (some ⟨w.heap.size + 1 + 1 + 1, 0, none⟩) n (vs.map ze)) := aa (EC hrow2.out QF.out); have hfz : ∀ o, w2.frozen? ⟨w.heap.size + 1 + 1 + 1, o, none⟩ = false := (frozen_of_row hrow2.out); obtain ⟨u0, hu0⟩ : ∃ u, w2.cell? ⟨w.heap.size + 1 + 1 + 1, t, none⟩ = some u := cell_of_row hrow2.out (by rw [QF.out]; omega); have e9 : (w2.setCell ⟨w.heap.size + 1 + 1 + 1, t, none⟩ (.map a.v)).cell? ⟨w.heap.size, 1, none⟩ = some (.slice vA n vc) := (by go_simp); have e8 : ∀ v, ((w2.setCell ⟨w.heap.size + 1 + 1 + 1, t, none⟩ (.map a.v)).setCell ⟨w.heap.size, 1, none⟩ v).cell? ⟨w.heap.size, 1, none⟩ = some v := (fun v => by simp [go_sem, e9])))
 obtain ⟨wF, hwF⟩ : ∃ wF : World, wF = ((((w2.setCell ⟨w.heap.size + 1 + 1 + 1, t, none⟩ (.map a.v)).setCell ⟨w.heap.size, 1, none⟩ (.slice (some ⟨w.heap.size + 1 + 1 + 1, 0, none⟩) n n)).setCell ⟨w.heap.size + 1 + 1, 0, none⟩ (.slice pA hs.length pc)).setCell ⟨w.heap.size + 1 + 1, 1, none⟩ (.slice (some ⟨w.heap.size + 1 + 1 + 1, 0, none⟩) n n)) := ⟨_, rfl⟩;have hBF : Below w.heap.size w wF := by
  have h2 : Below w.heap.size w w2 := hB1.trans (hB2.mono oM);rw [hwF];exact ae
 have hsF : wF.heap.size = w2.heap.size := by rw [hwF]; simp
 refine bodyPost_ret (v := .agg #[.slice pA hs.length pc, .slice (some ⟨w.heap.size + 1 + 1 + 1, 0, none⟩) n n]) (by simp [results, Tryz.results122, go_sem]; (try go_simp)) rfl ⟨_, rfl, by omega, ?_, ?_⟩
 ·rw [← hwF];have hRF := (HR.out.below hBF);have e1 : (vs.set t a).length = n := by rw [List.length_set, Hvn.out]
  refine ⟨hRF.1, ?_⟩;show (vs.set t a).length ≤ n ∧ ((some ⟨w.heap.size + 1 + 1 + 1, 0, none⟩ : Option Addr) = none → (vs.set t a).length = 0) ∧ Rd wF wF.heap.size 1 (some ⟨w.heap.size + 1 + 1 + 1, 0, none⟩) (vs.set t a).length ((vs.set t a).map ze) ∧ ∀ x ∈ vs.set t a, x.R hs.length wF;rw [e1];refine ⟨Nat.le_refl n, (fun e => by cases e), ?_, (fun x hx => ?_)⟩
  ·rw [hsF, hwF];refine Rd.set_far (Rd.set_far (Rd.set_far (Rd.set abu.out ht a) oM _) oM _) oM _
  ·rcases List.mem_or_eq_of_mem_set hx with hx | rfl
   ·exact hRF.2.2.2.2 x hx
   ·exact Ha.out.below hBF
 ·rw [← hwF];exact hBF
def aU (j : Bool) (f g : Int → Int) (k i : Int) : Int → Int := if j then ek (aJ f k i) g else aJ f k i
theorem vC (m : aS) (t k i : Nat) (h : br) (g : io) (a : eG) (w : World) (hR : m.R w) (hh : m.hs[k]? = some h) (hg : h.l[i]? = some g) (ha : m.vs[t]? = some a) (hn : m.vs.length ≤ 1000) (hL : m.hs.length ≤ 4096) (Cw : i ≤ 1000000) :
  Calls Tryz.prog 124 #[(.agg #[.slice (m).pA (m).hs.length (m).pc, .slice (m).vA (m).vs.length (m).vc]), .int .i64 ((t : Int) + 1), .int .i64 k, .int .i64 i, .bool true] w fun e w' => ∃ G v', e = .returned (.tuple #[.agg #[.slice m.pA m.hs.length m.pc, .slice (some ⟨G, 0, none⟩) m.vs.length m.vs.length], (qg g.x)]) ∧ w.heap.size ≤ G ∧ (m.with (some ⟨G, 0, none⟩) m.vs.length t ⟨v', ek (aJ a.f k i) g.a.f⟩).R w' ∧ Below w.heap.size w w' := by
 have hkn : k < m.hs.length := (List.getElem?_eq_some_iff.1 hh).1;have htn : t < m.vs.length := (List.getElem?_eq_some_iff.1 ha).1;have wZ : h.R m.hs.length w := hR.1.2.2.2 h (List.mem_of_getElem? hh);have vN : a.R m.hs.length w := hR.2.2.2.2 a (List.mem_of_getElem? ha);have IX : g.a.R m.hs.length w := wZ.2.2.2 g (List.mem_of_getElem? hg);obtain ⟨b, off, e, hb, c0⟩ := Rd.one hR.1.2.2.1 hkn hh;obtain ⟨pA, pc, hs, vA, vc, vs⟩ := m;simp only at e hkn htn wZ vN IX hn hL hh ha;subst e;obtain ⟨m, hm⟩ : ∃ m, m = aS.mk (some ⟨b, off, none⟩) pc hs vA vc vs := ⟨_, rfl⟩;rw [← hm] at hR;have hat := fun W (hw : h.R hs.length W) => yq hs.length h i g W hw hg;have jE := fun W (hw : m.R W) => mem_seen m t a W hw (by rw [hm]; exact ha) (by rw [hm]; exact hn);have rG := fun W (hw : a.R hs.length W) => mR hs.length hL a k i W hw oM oM (WalkArith.wf_i64 oM);have Kj := fun (x : eG) W (hw : m.R W) (hx : x.R hs.length W) => tW m t x W hw (by rw [hm]; exact htn) (by rw [hm]; exact hn) (by rw [hm]; exact hx);have MR := fun (x : eG) W (hx : x.R hs.length W) (hy : g.a.R hs.length W) => Eg hs.length hL x g.a W hx hy;simp only [hm] at jE Kj;rw [hm] at hR;have xu := aa hat;have ja := aa jE;have mQ := aa rG;have Vg := aa Kj;have Nv := aa MR;have HR := aa hR;have Hh := aa wZ;have vV := aa vN;have HgR := aa IX;have h0 : (0 : Int) ≤ (k : Int) := by omega
 have h1 : (k : Int) < (hs.length : Int) := by omega
 have Fj : b < w.heap.size + 1 := by omega
 have Fi : b < w.heap.size + 1 + 1 := by omega
 have hbz : b < w.heap.size + 1 + 1 + 1 := by omega
 unfold bK at c0;clear hR wZ vN IX hh hg ha hn hL Cw hkn htn hm hat jE rG Kj MR;go_enter Tryz.func124, Tryz.ntmps124;go_wp2_with (first
  | (go_at_call 118; refine rB (ja.out _ (HR.out.below ae)) ?_; intro w2 hb2 aH aL hs2; (try simp at hs2); have hz2 := zL w.heap.size w2; have Sg := zL (w.heap.size + 1) w2; have Sd := zL (w.heap.size + 1 + 1) w2; have aaH := zL w1.heap.size w2)
  | (go_at_call 119; refine (mQ.out _ (vV.out.below ae)).mono ?_; rintro e w3 ⟨v3, rfl, hv3, hb3⟩; obtain ⟨cN, cH, hs3⟩ := bC hb3; (try simp at hs3); have hz3 := zL w.heap.size w3; have Og := zL (w.heap.size + 1) w3; have aaG := zL (w.heap.size + 1 + 1) w3; have aaF := zL w1.heap.size w3; have UZ := aa hv3; clear hv3)
  | (go_at_call 129; refine (Nv.out ⟨v3, _⟩ _ (UZ.out.below ae) (HgR.out.below ae)).mono ?_; rintro e w4 ⟨v4, rfl, hv4, hb4⟩; obtain ⟨eB, fZ, hs4⟩ := bC hb4; (try simp at hs4); have iZ := zL w.heap.size w4; have adO := zL (w.heap.size + 1) w4; have adN := zL (w.heap.size + 1 + 1) w4; have adM := zL w1.heap.size w4; have adL := zL w3.heap.size w4; have Kv := aa hv4; clear hv4)
  | (go_at_call 92; refine rB (xu.out _ (Hh.out.below ae)) ?_; intro w1 hb1 ar aA hs1; (try simp at hs1); have hz1 := zL w.heap.size w1; have rQ := zL (w.heap.size + 1) w1; have qI := zL (w.heap.size + 1 + 1) w1))
 have x0 := cE w4 w3.heap.size 0 (.map v3);obtain ⟨wa, eY⟩ : ∃ wa : World, wa = w4.setCell ⟨w3.heap.size, 0, none⟩ (.map v4) := ⟨_, rfl⟩;have q0 := cR eY w.heap.size 0 (.slice (some ⟨b, off, none⟩) hs.length pc);have q1 := cR eY w.heap.size 1 (.slice vA vs.length vc);have q2 := cR eY w3.heap.size 0 (.map v4);have q3 := cJ eY w1.heap.size 0 g.x.v;have q4 := cR eY w1.heap.size 1 (.int .u32 g.x.r);have q5 := cR eY w1.heap.size 2 (.int .u32 g.x.f);have r0 := cR eY (w.heap.size + 1) 0 (.slice none 0 0);have r1 := cR eY (w.heap.size + 1) 1 (.slice none 0 0);have r2 := cJ eY (w.heap.size + 1 + 1) 0 0;have r3 := cR eY (w.heap.size + 1 + 1) 1 (.int .u32 0);have r4 := cR eY (w.heap.size + 1 + 1) 2 (.int .u32 0);have f0 := fR eY (w.heap.size + 1);have f1 := fR eY (w.heap.size + 1 + 1);have hBa : Below w.heap.size w wa := by rw [eY]; exact ae
 have TV : eG.R hs.length wa ⟨v4, ek (aJ a.f k i) g.a.f⟩ := by rw [eY]; exact Kv.out.setCell x0 _
 have Vu := aa TV;have hza : wa.heap.size = w4.heap.size := by rw [eY]; simp
 have Un := zL w.heap.size wa;have hA1 := zL (w.heap.size + 1) wa;have hA2 := zL (w.heap.size + 1 + 1) wa;have hA3 := zL w3.heap.size wa;have yx := zL w1.heap.size wa;rw [← eY];clear eY hza TV x0 ar aH cN eB aA aL cH fZ hb1 hb2 hb3 hb4 UZ Kv xu ja mQ Nv;refine wp_region_held_drew (S := (fun w' => (w'.cell? ⟨w.heap.size, 0, none⟩ = some (.slice (some ⟨b, off, none⟩) hs.length pc) ∧ w'.cell? ⟨w.heap.size, 1, none⟩ = some (.slice vA vs.length vc) ∧ w'.cell? ⟨w3.heap.size, 0, none⟩ = some (.map v4)) ∧ w'.cell? ⟨w1.heap.size, 0, none⟩ = some (.int .i64 g.x.v) ∧ w'.cell? ⟨w1.heap.size, 1, none⟩ = some (.int .u32 g.x.r) ∧ w'.cell? ⟨w1.heap.size, 2, none⟩ = some (.int .u32 g.x.f))) kR AX (fun hHeld => ?_);refine az 0 ?_;refine az 1 ?_;refine az 2 ?_;refine az 4 ?_;refine az 5 ?_;refine wE 3 fun K hK => ?_;go_simp;(go_at_call 122; refine (Vg.out ⟨v4, _⟩ _ (HR.out.below ae) (Vu.out.below ae)).mono ?_; rintro e w5 ⟨g5, rfl, hg5, dv, bU⟩; (try simp at hg5); have hb5 : Below wa.heap.size wa w5 := jM; clear bU; obtain ⟨bX, cw, hs5⟩ := bC hb5; have gP := aa (aS.with_rd dv rfl); clear dv; have Oc := zL (w.heap.size + 1) w5; have Ob := zL (w.heap.size + 1 + 1) w5);go_wp2_with fail;refine oK hK AX fun hHeld => ?_;clear hK K;refine wE 6 fun K hK => ?_;go_simp;go_wp2_with fail;refine oK hK AX fun hHeld => ?_;clear hK K;refine wE 7 fun K hK => ?_;go_simp;go_wp2_with fail;refine oK hK AX fun hHeld => ?_;clear hK K;refine wD ?_;all_goals go_wp2_with fail
 all_goals have s0 : ∀ u, (((w5.setCell ⟨w.heap.size + 1, 0, none⟩ (.slice (some ⟨b, off, none⟩) hs.length pc)).setCell ⟨w.heap.size + 1, 1, none⟩ (.slice (some ⟨g5, 0, none⟩) vs.length vs.length)).setCell ⟨w.heap.size + 1 + 1, 0, none⟩ u).heap.size = w5.heap.size := fun u => by simp
 all_goals refine bodyPost_ret (v := .tuple #[.agg #[.slice (some ⟨b, off, none⟩) hs.length pc, .slice (some ⟨g5, 0, none⟩) vs.length vs.length], (.agg #[.int .i64 (g.x).v, .int .u32 (g.x).r, .int .u32 (g.x).f])]) (by simp [results, Tryz.results124, go_sem]; (try go_simp)) rfl ⟨_, v4, rfl, by omega, aS.with_R HR.out ae rfl ?_ ?_, ae⟩
 all_goals first
  | (refine Rd.more (Rd.set_far (Rd.set_far (Rd.set_far (Rd.set_far (Rd.set_far gP.out ?_ _) ?_ _) ?_ _) ?_ _) ?_ _) sM <;> omega)
  | exact (((((Vu.out.below hb5).setCell (u := .slice none 0 0) (by go_simp) _).setCell (u := .slice none 0 0) (by go_simp) _).setCell (u := .int .i64 0) (by go_simp) _).setCell (u := .int .u32 0) (by go_simp) _).setCell (u := .int .u32 0) (by go_simp) _
def dK (p : Addr) (w : World) : Prop := ∃ u, w.cell? p = some u
theorem dK.of {p : Addr} {w : World} {u : Value} (h : w.cell? p = some u) : dK p w := ⟨u, h⟩
theorem dK.set {p q : Addr} {w : World} (h : dK p w) (x : Value) : dK p (w.setCell q x) := by
 obtain ⟨u, h⟩ := h;by_cases e : p = q
 ·subst e;exact ⟨x, World.cell?_setCell_same _ _ _ h⟩
 ·exact ⟨u, by rw [World.cell?_setCell_other _ _ _ _ (fun e2 => e (by first | exact e2 | exact e2.symm))]; exact h⟩
def aV (L g n : Nat) (vs : List eG) (a : eG) (w : World) : Prop := Rd w w.heap.size 1 (some ⟨g, 0, none⟩) n (vs.map ze) ∧ a.R L w
theorem aV.of {m : aS} {g n t : Nat} {a : eG} {w : World} (hn : m.vs.length = n) (ht : t < n) (h : (m.with (some ⟨g, 0, none⟩) n t a).R w) : aV m.hs.length g n (m.vs.set t a) a w := by
 have e1 : (m.vs.set t a).length = n := by rw [List.length_set, hn]
 have h1 : Rd w w.heap.size 1 (some ⟨g, 0, none⟩) (m.vs.set t a).length ((m.vs.set t a).map ze) := h.2.2.2.1;rw [e1] at h1;exact ⟨h1, h.2.2.2.2 a (List.mem_of_getElem? (i := t) (by show (m.vs.set t a)[t]? = some a; rw [List.getElem?_set, if_pos rfl, if_pos oM]))⟩
theorem aV.below {L g n : Nat} {vs : List eG} {a : eG} {w w' : World} (h : aV L g n vs a w) (hb : Below w.heap.size w w') : aV L g n vs a w' := ⟨(h.1.below hb).more hb.size, h.2.below hb⟩
theorem aV.alloc {L g n : Nat} {vs : List eG} {a : eG} {w : World} (h : aV L g n vs a w) (o : Array Value) (t : TypeId) : aV L g n vs a (w.alloc (.cells o t)) := h.below (Below.alloc (Below.refl _ _) (Nat.le_refl _) _)
theorem aV.rd {L g n : Nat} {vs : List eG} {a : eG} {w : World} (h : aV L g n vs a w) : Rd w w.heap.size 1 (some ⟨g, 0, none⟩) n (vs.map ze) := h.1
theorem aV.r {L g n : Nat} {vs : List eG} {a : eG} {w : World} (h : aV L g n vs a w) : a.R L w := h.2
theorem aV.lt {L g n : Nat} {vs : List eG} {a : eG} {w : World} (h : aV L g n vs a w) (hn : 0 < n) : g < w.heap.size := by
 obtain ⟨b, off, e, hb, _⟩ := h.1.2 oM;injection e with e
 injection e with e _
 omega
theorem aV.drew {L g n : Nat} {vs : List eG} {a : eG} {w : World} (h : aV L g n vs a w) : aV L g n vs a w.drew := h.below (Below.drew (Below.refl _ _))
theorem aV.set {L g n c o : Nat} {vs : List eG} {a : eG} {w : World} (h : aV L g n vs a w) (hne : c ≠ g) (hc : dK ⟨c, o, none⟩ w) (x : Value) : aV L g n vs a (w.setCell ⟨c, o, none⟩ x) := by
 obtain ⟨u, hc⟩ := hc;refine ⟨?_, h.2.setCell hc x⟩;have h1 := h.1.set_far (c := c) (o := o) hne x;have e : (w.setCell ⟨c, o, none⟩ x).heap.size = w.heap.size := by simp
 rw [e];exact h1
theorem xQ (m : aS) (t k i : Nat) (h : br) (g : io) (a : eG) (w : World) (hR : m.R w) (hh : m.hs[k]? = some h) (hg : h.l[i]? = some g) (ha : m.vs[t]? = some a) (hn : m.vs.length ≤ 1000) (hL : m.hs.length ≤ 4096) (Cw : i ≤ 1000000) :
  Calls Tryz.prog 124 #[(.agg #[.slice (m).pA (m).hs.length (m).pc, .slice (m).vA (m).vs.length (m).vc]), .int .i64 ((t : Int) + 1), .int .i64 k, .int .i64 i, .bool false] w fun e w' => ∃ G v', e = .returned (.tuple #[.agg #[.slice m.pA m.hs.length m.pc, .slice (some ⟨G, 0, none⟩) m.vs.length m.vs.length], (qg g.x)]) ∧ w.heap.size ≤ G ∧ (m.with (some ⟨G, 0, none⟩) m.vs.length t ⟨v', aJ a.f k i⟩).R w' ∧ Below w.heap.size w w' := by
 have hkn : k < m.hs.length := (List.getElem?_eq_some_iff.1 hh).1;have htn : t < m.vs.length := (List.getElem?_eq_some_iff.1 ha).1;have wZ : h.R m.hs.length w := hR.1.2.2.2 h (List.mem_of_getElem? hh);have vN : a.R m.hs.length w := hR.2.2.2.2 a (List.mem_of_getElem? ha);have IX : g.a.R m.hs.length w := wZ.2.2.2 g (List.mem_of_getElem? hg);obtain ⟨b, off, e, hb, c0⟩ := Rd.one hR.1.2.2.1 hkn hh;obtain ⟨pA, pc, hs, vA, vc, vs⟩ := m;simp only at e hkn htn wZ vN IX hn hL hh ha;subst e;obtain ⟨m, hm⟩ : ∃ m, m = aS.mk (some ⟨b, off, none⟩) pc hs vA vc vs := ⟨_, rfl⟩;rw [← hm] at hR;have hat := fun W (hw : h.R hs.length W) => yq hs.length h i g W hw hg;have jE := fun W (hw : m.R W) => mem_seen m t a W hw (by rw [hm]; exact ha) (by rw [hm]; exact hn);have rG := fun W (hw : a.R hs.length W) => mR hs.length hL a k i W hw oM oM (WalkArith.wf_i64 oM);have Kj := fun (x : eG) W (hw : m.R W) (hx : x.R hs.length W) => tW m t x W hw (by rw [hm]; exact htn) (by rw [hm]; exact hn) (by rw [hm]; exact hx);simp only [hm] at jE Kj;rw [hm] at hR;have xu := aa hat;have ja := aa jE;have mQ := aa rG;have Vg := aa Kj;have HR := aa hR;have Hh := aa wZ;have vV := aa vN;have HgR := aa IX;have h0 : (0 : Int) ≤ (k : Int) := by omega
 have h1 : (k : Int) < (hs.length : Int) := by omega
 have Fj : b < w.heap.size + 1 := by omega
 have Fi : b < w.heap.size + 1 + 1 := by omega
 have hbz : b < w.heap.size + 1 + 1 + 1 := by omega
 unfold bK at c0;clear hR wZ vN IX hh hg ha hn hL Cw hkn htn hm hat jE rG Kj;go_enter Tryz.func124, Tryz.ntmps124;go_wp2_with (first
  | (go_at_call 118; refine rB (ja.out _ (HR.out.below ae)) ?_; intro w2 hb2 aH aL hs2; (try simp at hs2); have hz2 := zL w.heap.size w2; have Sg := zL (w.heap.size + 1) w2; have Sd := zL (w.heap.size + 1 + 1) w2; have aaH := zL w1.heap.size w2)
  | (go_at_call 119; refine (mQ.out _ (vV.out.below ae)).mono ?_; rintro e w3 ⟨v3, rfl, hv3, hb3⟩; obtain ⟨cN, cH, hs3⟩ := bC hb3; (try simp at hs3); have hz3 := zL w.heap.size w3; have Og := zL (w.heap.size + 1) w3; have aaG := zL (w.heap.size + 1 + 1) w3; have aaF := zL w1.heap.size w3; have UZ := aa hv3; clear hv3)
  | (go_at_call 92; refine rB (xu.out _ (Hh.out.below ae)) ?_; intro w1 hb1 ar aA hs1; (try simp at hs1); have hz1 := zL w.heap.size w1; have rQ := zL (w.heap.size + 1) w1; have qI := zL (w.heap.size + 1 + 1) w1))
 obtain ⟨wa, eY⟩ : ∃ wa : World, wa = w3.alloc (.cells #[.map v3] 171) := ⟨_, rfl⟩;have q0 := cR eY w.heap.size 0 (.slice (some ⟨b, off, none⟩) hs.length pc);have q1 := cR eY w.heap.size 1 (.slice vA vs.length vc);have q2 := cR eY w3.heap.size 0 (.map v3);have q3 := cJ eY w1.heap.size 0 g.x.v;have q4 := cR eY w1.heap.size 1 (.int .u32 g.x.r);have q5 := cR eY w1.heap.size 2 (.int .u32 g.x.f);have r0 := cR eY (w.heap.size + 1) 0 (.slice none 0 0);have r1 := cR eY (w.heap.size + 1) 1 (.slice none 0 0);have r2 := cJ eY (w.heap.size + 1 + 1) 0 0;have r3 := cR eY (w.heap.size + 1 + 1) 1 (.int .u32 0);have r4 := cR eY (w.heap.size + 1 + 1) 2 (.int .u32 0);have f0 := fR eY (w.heap.size + 1);have f1 := fR eY (w.heap.size + 1 + 1);have hBa : Below w.heap.size w wa := by rw [eY]; exact ae
 have TV : eG.R hs.length wa ⟨v3, aJ a.f k i⟩ := by rw [eY]; exact UZ.out.below (Below.alloc (Below.refl _ _) (Nat.le_refl _) _)
 have Vu := aa TV;have hza : wa.heap.size = w3.heap.size + 1 := by rw [eY]; simp
 have Un := zL w.heap.size wa;have hA1 := zL (w.heap.size + 1) wa;have hA2 := zL (w.heap.size + 1 + 1) wa;have hA3 := zL w3.heap.size wa;have yx := zL w1.heap.size wa;rw [← eY];clear eY hza TV ar aH cN aA aL cH hb1 hb2 hb3 UZ xu ja mQ;refine wp_region_held_drew (S := (fun w' => (w'.cell? ⟨w.heap.size, 0, none⟩ = some (.slice (some ⟨b, off, none⟩) hs.length pc) ∧ w'.cell? ⟨w.heap.size, 1, none⟩ = some (.slice vA vs.length vc) ∧ w'.cell? ⟨w3.heap.size, 0, none⟩ = some (.map v3)) ∧ w'.cell? ⟨w1.heap.size, 0, none⟩ = some (.int .i64 g.x.v) ∧ w'.cell? ⟨w1.heap.size, 1, none⟩ = some (.int .u32 g.x.r) ∧ w'.cell? ⟨w1.heap.size, 2, none⟩ = some (.int .u32 g.x.f))) kR AX (fun hHeld => ?_);refine az 0 ?_;refine az 1 ?_;refine az 2 ?_;refine az 4 ?_;refine az 5 ?_;refine wE 3 fun K hK => ?_;go_simp;(go_at_call 122; refine (Vg.out ⟨v3, _⟩ _ (HR.out.below ae) (Vu.out.below ae)).mono ?_; rintro e w5 ⟨g5, rfl, hg5, dv, bU⟩; (try simp at hg5); have hb5 : Below wa.heap.size wa w5 := jM; clear bU; obtain ⟨bX, cw, hs5⟩ := bC hb5; have gP := aa (aS.with_rd dv rfl); clear dv; have Oc := zL (w.heap.size + 1) w5; have Ob := zL (w.heap.size + 1 + 1) w5);go_wp2_with fail;refine oK hK AX fun hHeld => ?_;clear hK K;refine wE 6 fun K hK => ?_;go_simp;go_wp2_with fail;refine oK hK AX fun hHeld => ?_;clear hK K;refine wE 7 fun K hK => ?_;go_simp;go_wp2_with fail;refine oK hK AX fun hHeld => ?_;clear hK K;refine wD ?_;all_goals go_wp2_with fail
 all_goals have s0 : ∀ u, (((w5.setCell ⟨w.heap.size + 1, 0, none⟩ (.slice (some ⟨b, off, none⟩) hs.length pc)).setCell ⟨w.heap.size + 1, 1, none⟩ (.slice (some ⟨g5, 0, none⟩) vs.length vs.length)).setCell ⟨w.heap.size + 1 + 1, 0, none⟩ u).heap.size = w5.heap.size := fun u => by simp
 all_goals refine bodyPost_ret (v := .tuple #[.agg #[.slice (some ⟨b, off, none⟩) hs.length pc, .slice (some ⟨g5, 0, none⟩) vs.length vs.length], (.agg #[.int .i64 (g.x).v, .int .u32 (g.x).r, .int .u32 (g.x).f])]) (by simp [results, Tryz.results124, go_sem]; (try go_simp)) rfl ⟨_, v3, rfl, by omega, aS.with_R HR.out ae rfl ?_ ?_, ae⟩
 all_goals first
  | (refine Rd.more (Rd.set_far (Rd.set_far (Rd.set_far (Rd.set_far (Rd.set_far gP.out ?_ _) ?_ _) ?_ _) ?_ _) ?_ _) sM <;> omega)
  | exact (((((Vu.out.below hb5).setCell (u := .slice none 0 0) (by go_simp) _).setCell (u := .slice none 0 0) (by go_simp) _).setCell (u := .int .i64 0) (by go_simp) _).setCell (u := .int .u32 0) (by go_simp) _).setCell (u := .int .u32 0) (by go_simp) _
theorem EM (j : Bool) (m : aS) (t k i : Nat) (h : br) (g : io) (a : eG) (w : World) (hR : m.R w) (hh : m.hs[k]? = some h) (hg : h.l[i]? = some g) (ha : m.vs[t]? = some a) (hn : m.vs.length ≤ 1000) (hL : m.hs.length ≤ 4096) (Cw : i ≤ 1000000) :
  Calls Tryz.prog 124 #[(.agg #[.slice (m).pA (m).hs.length (m).pc, .slice (m).vA (m).vs.length (m).vc]), .int .i64 ((t : Int) + 1), .int .i64 k, .int .i64 i, .bool j] w fun e w' => ∃ G v', e = .returned (.tuple #[.agg #[.slice m.pA m.hs.length m.pc, .slice (some ⟨G, 0, none⟩) m.vs.length m.vs.length], (qg g.x)]) ∧ w.heap.size ≤ G ∧ (m.with (some ⟨G, 0, none⟩) m.vs.length t ⟨v', aU j a.f g.a.f k i⟩).R w' ∧ Below w.heap.size w w' := by
 cases j
 ·exact xQ m t k i h g a w hR hh hg ha hn hL Cw
 ·exact vC m t k i h g a w hR hh hg ha hn hL Cw
end Go.Proofs.YtapjfhbonfehpaaGreatDoor
namespace Go.Proofs.YtapjfhbonfehpaaGreatDoor
open Go.RowKit
def aQ (w : World) (B k : Nat) : List Value → World
 | [] => w
 | x :: l => aQ (w.setCell ⟨B, k, none⟩ x) B (k + 1) l
theorem aP (B : Nat) : ∀ (l : List Value) (k : Nat) (w : World), (aQ w B k l).heap.size = w.heap.size
 | [], _, _ => rfl
 | x :: l, k, w => (aP B l (k + 1) _).trans sM
theorem aZ {N B : Nat} {a : World} (hN : N ≤ B) : ∀ (l : List Value) (k : Nat) {w : World}, Below N a w → Below N a (aQ w B k l)
 | [], _, _, h => h
 | x :: l, k, _, h => aZ hN l (k + 1) (h.setCell (p := ⟨B, k, none⟩) hN x)
theorem aB.farFrom {B C : Nat} {cs : List Value} (hne : B ≠ C) : ∀ (l : List Value) (k : Nat) {w : World}, aB C cs w → aB C cs (aQ w B k l)
 | [], _, _, h => h
 | x :: l, k, _, h => aB.farFrom hne l (k + 1) (h.far hne x)
theorem rK {B : Nat} : ∀ (l : List Value) (pre : List Value) (k : Nat) {w : World} {cs : List Value}, pre.length = k → cs.length = l.length → aB B (pre ++ cs) w → aB B (pre ++ l) (aQ w B k l)
 | [], pre, k, w, cs, _, hl, h => by
  have : cs = [] := List.eq_nil_of_length_eq_zero hl;subst this;exact h
 | x :: l, pre, k, w, [], _, hl, h => by simp at hl
 | x :: l, pre, k, w, c :: cs, hp, hl, h => by
  have q := h.store (o := k) (by simp; omega) x;rw [List.set_append_right _ _ oM, show k - pre.length = 0 by omega, List.set_cons_zero] at q;have q2 := rK l (pre ++ [x]) (k + 1) (cs := cs) (by simp; omega) (by simpa using hl) (by simpa using q);rw [List.append_assoc] at q2;exact q2
theorem aB.fill {B : Nat} {w : World} {cs vs : List Value} (h : aB B cs w) (hl : cs.length = vs.length) : aB B vs (aQ w B 0 vs) := rK vs [] 0 rfl hl h
theorem gY {P : World → Prop} {B n : Nat} (hP : ∀ (w : World) (o : Nat) (x : Value), dK ⟨B, o, none⟩ w → P w → P (w.setCell ⟨B, o, none⟩ x)) : ∀ (l : List Value) (k : Nat) {w : World}, k + l.length ≤ n → gz B n w → P w → P (aQ w B k l)
 | [], _, _, _, _, h => h
 | x :: l, k, w, hn, hb, h => gY hP l (k + 1) (by simp at hn; omega) (hb.set (fun _ => by simp at hn; omega) x) (hP w k x (hb.at (by simp at hn; omega)) h)
end Go.Proofs.YtapjfhbonfehpaaGreatDoor
