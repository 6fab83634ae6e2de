/- Package line: Sync. -/
import Derived.Lib.MinMax
import Derived.Test.YtapjfhbonfehpaaGreatDoorV49
set_option linter.unusedSimpArgs false
set_option linter.unusedVariables false
set_option maxRecDepth 100000
set_option maxHeartbeats 40000000
namespace Go.Proofs.YtapjfhbonfehpaaGreatDoor
open Go.RowKit Go.Maps
def fX (p : Int → Bool) (g : Int → Int) (logs : List eQ) : List eQ := logs.mapIdx (fun n x => if p n then ⟨x.A, x.cap, x.l, max x.kept (g n)⟩ else x)
def gU (g : Int → Int) (logs : List eQ) : List eQ := fX (fun _ => true) g logs
theorem nY (p : Int → Bool) (g : Int → Int) (logs : List eQ) : (fX p g logs).length = logs.length := by simp [fX]
theorem gI (p : Int → Bool) (g : Int → Int) (logs : List eQ) (n : Nat) : (fX p g logs)[n]? = (logs[n]?).map (fun x => if p n then ⟨x.A, x.cap, x.l, max x.kept (g n)⟩ else x) := by simp [fX]
theorem lV {p : Int → Bool} {g : Int → Int} {logs : List eQ} (h : ∀ n : Nat, n < logs.length → p n = true → g n = 0) (hk : ∀ x ∈ logs, 0 ≤ x.kept) : fX p g logs = logs := by
 refine List.ext_getElem? (fun n => ?_);rw [gI];cases hx : logs[n]? with
 | none => rfl
 | some x =>
  have hn := (List.getElem?_eq_some_iff.1 hx).1;have h0 := hk x (List.mem_of_getElem? hx);simp only [Option.map_some];split
  ·rename_i hp;rw [h n hn hp, Int.max_eq_left h0]
  ·rfl
theorem Bz {p q : Int → Bool} {g : Int → Int} {logs : List eQ} {n : Nat} {x : eQ} (hx : logs[n]? = some x) (hp : p n = false) (hq : ∀ m : Int, q m = (p m || decide (m = n))) : fX q g logs = (fX p g logs).set n ⟨x.A, x.cap, x.l, max x.kept (g n)⟩ := by
 refine List.ext_getElem? (fun m => ?_);have hn := (List.getElem?_eq_some_iff.1 hx).1;rw [gI, List.getElem?_set, nY, gI];by_cases e : n = m
 ·subst e;rw [if_pos rfl, if_pos hn, hx, hq];simp
 ·rw [if_neg e, hq, show decide ((m : Int) = n) = false from decide_eq_false oM, Bool.or_false]
theorem H8 (x : eQ) (v : Int) : gu ⟨x.A, x.cap, x.l, v⟩ = (gu x).set 1 (.int .i64 v) := rfl
def lQ (G : Nat → Int → Int) (t : Nat) : Nat → Int → Int := fun t' => if t' = t then fun _ => 0 else G t'
theorem Gu {w : World} {p : Int → Bool} {g : Int → Int} {logs : List eQ} (h : ∀ x ∈ logs, x.R w) : ∀ x ∈ fX p g logs, x.R w := by
 intro x hx;obtain ⟨n, hn⟩ := List.mem_iff_getElem?.1 hx;rw [gI, Option.map_eq_some_iff] at hn;obtain ⟨y, hy, rfl⟩ := hn;have := h y (List.mem_of_getElem? hy);split
 ·exact this
 ·exact this
theorem bW.gone {N b : Nat} {w : World} {D : DataW Unit} {G : Nat → Int → Int} {t n : Nat} (ho : w.ownsMap Tryz.prog 3 jd b n (D.del (.int .i64 ((t : Int) + 1)))) (hk : eO D 9) (h3 : ∀ t : Nat, t < 8 → ∃ u, D.atKey (.int .i64 ((t : Int) + 1)) (.lit (.bool false)) = j6 u ∧ kH N w u (G t)) : bW N w (some b) (lQ G t) := by
 have hk2 := hk.del (.int .i64 ((t : Int) + 1));refine .inr ⟨b, _, rfl, tO ho dO hk2, hk2, fun t' Ct => ?_⟩;by_cases e : t' = t
 ·subst e;refine ⟨none, atKey_del_same _, ?_⟩;have : lQ G t' t' = fun _ => 0 := if_pos rfl;rw [this];exact ⟨fun z => ⟨Int.le_refl 0, fun _ => rfl⟩, .inl ⟨rfl, fun _ => rfl⟩⟩
 ·obtain ⟨u, e1, e2⟩ := h3 t' Ct;refine ⟨u, ?_, by rw [show lQ G t t' = G t' from if_neg e]; exact e2⟩;rw [atKey_del_other (by intro h; injection h with _ h; omega)];exact e1
theorem FU {G : Nat → Int → Int} {t : Nat} (h : ∀ z, G t z = 0) : lQ G t = G := by
 funext t';unfold lQ;split
 ·rename_i e;subst e;funext z;exact (h z).symm
 ·rfl
theorem Rd.grownM {w w' : World} {B size n C : Nat} {A : Option Addr} {xs : List Value} (h : Rd w B size A n xs) (hB : B ≤ w.heap.size) (hs : 0 < size) (hC : ∃ es c, w.heap[C]? = some (.map es c)) (hg : w.grownBy w' (some C)) : Rd w' B size A n xs := by
 refine ⟨h.1, fun hn => ?_⟩;obtain ⟨b, off, e, hb, hc⟩ := h.2 hn;have hl : 0 < xs.length := by rw [h.1]; exact Nat.mul_pos hn hs
 have q := hc 0 _ (List.getElem?_eq_getElem hl);obtain ⟨c, t, fr, S9⟩ := nU q;have h1 : b ≠ C := by
  rintro rfl;obtain ⟨es, c, hm⟩ := hC;rw [hm] at S9;cases S9
 exact ⟨b, off, e, hb, fun j u hu => (World.cell?_of_block (hg.block b oM (by intro e; injection e with e; exact h1 e))).trans (hc j u hu)⟩
theorem aO.R.grownM {w w' : World} {m : aO} {C : Nat} (h : m.R w) (hg : w.grownBy w' (some C)) (hC : ∃ es c, w.heap[C]? = some (.map es c)) : m.R w' :=
 ⟨⟨h.1.1, h.1.2.1, (h.1.2.2.grownM (Nat.le_refl _) dM hC hg).more hg.size⟩, h.2.1, h.2.2.1, (h.2.2.2.1.grownM (Nat.le_refl _) dM hC hg).more hg.size, fun g hgm => ⟨(h.2.2.2.2 g hgm).1, (h.2.2.2.2 g hgm).2.1, ((h.2.2.2.2 g hgm).2.2.grownM (Nat.le_refl _) dM hC hg).more hg.size⟩⟩
theorem eO.has_in {D : DataW Unit} {L : Nat} (h : eO D L) {x : Int} (hk : Maps.has D (.int .i64 x) = true) : 0 ≤ x ∧ x < (L : Int) := by
 obtain ⟨y, e, h0, h1⟩ := h.has hk;injection e with _ e
 subst e;exact ⟨h0, h1⟩
theorem Fs (w : World) (a : Addr) (u : Value) : w.grownBy (w.setCell a u) (some a.block) :=
 ⟨rfl, rfl, rfl, by simp, fun k _ hne => Below.heap_setCell w a u k (by intro e; exact hne (by rw [e]))⟩
theorem JQ {a b : Bool} (h : (a && b) = true) : a = true := by cases a <;> simp_all
theorem left_step (left : Lit → Bool) (n m : Int) : (!(left (.int .i64 m) && !(Lit.int .i64 m).sameKey (.int .i64 n))) = (!(left (.int .i64 m)) || decide (m = n)) := by
 rw [Bool.not_and, Bool.not_not];congr 1;by_cases e : m = n
 ·subst e;simp [Lit.sameKey]
 ·rw [decide_eq_false e];exact sameKey_ne (by intro h; injection h with _ h; exact e h)
theorem G7 {w : World} {base size n cap : Nat} {e : TypeId} {A : Option Addr} {xs : List Value} (h : w.ownsRow base e size (.slice A n cap) n xs) (hn : 0 < n) : ∃ g, A = some ⟨g, 0, none⟩ ∧ base ≤ g ∧ g < w.heap.size := by
 obtain ⟨g, c, e, _, hg, _⟩ := bJ h hn;injection e with e _ _
 subst e;exact ⟨g, rfl, hg, (h.lt g rfl).2⟩
theorem aB.of3 {B : Nat} {a b c : Value} {w : World} (h0 : w.cell? ⟨B, 0, none⟩ = Option.some a) (h1 : w.cell? ⟨B, 1, none⟩ = Option.some b) (h2 : w.cell? ⟨B, 2, none⟩ = Option.some c) (hf : ∀ o, w.frozen? ⟨B, o, none⟩ = false) : aB B [a, b, c] w :=
 ⟨fun j u hu => by
  match j, hu with
  | 0, hu => injection hu with hu; subst hu; exact h0
  | 1, hu => injection hu with hu; subst hu; exact h1
  | 2, hu => injection hu with hu; subst hu; exact h2, hf, cB h0⟩
theorem aB.grown {B : Nat} {cs : List Value} {w w' : World} {row : Option Nat} (h : aB B cs w) (hg : w.grownBy w' row) (hne : Option.some B ≠ row) : aB B cs w' :=
 ⟨fun j u hu => (World.cell?_of_block (hg.block B h.2.2 hne)).trans (h.1 j u hu), fun o => (World.frozen?_of_block (hg.block B h.2.2 hne)).trans (h.2.1 o), Nat.lt_of_lt_of_le h.2.2 hg.size⟩
theorem Cj (m : aO) (t b : Nat) (D : DataW Unit) (G : Nat → Int → Int) (w : World) (hR : m.R w) (ha : m.asks = some b) (hown : w.ownsMap Tryz.prog 3 jd b 9 D) (hK : eO D 9) (h3 : ∀ t : Nat, t < 8 → ∃ u, D.atKey (.int .i64 ((t : Int) + 1)) (.lit (.bool false)) = j6 u ∧ kH m.logs.length w u (G t)) (ht : t < 8) (hl : m.logs.length ≤ 4096) (hkp : ∀ x ∈ m.logs, 0 ≤ x.kept ∧ x.kept ≤ 1000000) :
  Calls Tryz.prog 98 #[(.agg #[.slice (m).fA (m).first.length (m).fc, .slice (m).lA (m).logs.length (m).lc, .map (m).asks]), .int .i64 ((t : Int) + 1)] w fun e w' => ∃ (Ig : Option Addr) (dU b' : Nat), e = .returned (.tuple #[.agg #[.slice m.fA m.first.length m.fc, .slice Ig m.logs.length dU, .map (some b')], .int .i64 0]) ∧ aO.R w' ⟨m.fA, m.fc, m.first, Ig, dU, gU (G t) m.logs, some b'⟩ ∧ bW m.logs.length w' (some b') (lQ G t) ∧ w.heap.size ≤ b' ∧ (∀ c o, Ig = some ⟨c, o, none⟩ → w.heap.size ≤ c) ∧ Below w.heap.size w w' := by
 obtain ⟨fA, fc, first, lA, lc, logs, asks⟩ := m;simp only at ha hl hkp h3;subst ha;obtain ⟨hla, hrl, hgs⟩ : (lA = none → logs.length = 0) ∧ Rd w w.heap.size 2 lA logs.length (logs.flatMap gu) ∧ ∀ g ∈ logs, g.R w := ⟨hR.2.2.1, hR.2.2.2.1, hR.2.2.2.2⟩;have hcl := fun W (h : Rd W W.heap.size 2 lA logs.length (logs.flatMap gu)) => yE lA logs.length lc (logs.flatMap gu) W h hla (wM logs) oM;have hwk : (Lit.int .i64 ((t : Int) + 1)).wf = true := WalkArith.wf_i64 oM;have N5 : ∀ W, (zeroValue 211).run Tryz.prog W = .ok (.map none) W := fun W => Tryz.zeroValue211 W;have vU := aa hcl;have Ns := aa hrl;have HR := aa hR;have dR := aa hown;have HK := aa hK;have H3 := aa h3;have QI := aa hkp;obtain ⟨u, hu, hbd, WE⟩ := h3 t ht;have Hu := aa hu;have HAu := aa WE;have QJ := aa hbd;have Hl := aa hl;have Hgs := aa hgs;clear hcl hrl hR hgs hown hK h3 hkp hu WE hbd hl;go_enter Tryz.func98, Tryz.ntmps98;go_upto_region 4 with (first
  | (go_at_call 104; refine (iK t _ ht).mono ?_; rintro e w1 ⟨rfl, rfl⟩)
  | (go_at_call 108; refine (vU.out _ ((Ns.out.below ae).more (by simp; omega))).mono ?_; rintro e w2 ⟨A', dU, rfl, iN, hb2⟩; obtain ⟨aH, aL, hs2⟩ := bC hb2; (try simp at hs2); have hz0 := zL w.heap.size w2; have hz1 := zL (w.heap.size + 1) w2))
 obtain ⟨w3, hw3⟩ : ∃ W : World, W = w2.setCell ⟨w.heap.size, 1, none⟩ (.slice A' logs.length dU) := ⟨_, rfl⟩;have g0 := cR hw3 w.heap.size 0 (.slice fA first.length fc);have g1o := cE w2 w.heap.size 1 (.slice lA logs.length lc);have g1 : w3.cell? ⟨w.heap.size, 1, none⟩ = some (.slice A' logs.length dU) := by rw [hw3]; exact World.cell?_setCell_same _ _ _ g1o
 have g2 := cR hw3 w.heap.size 2 (.map (some b));have g3 := cR hw3 (w.heap.size + 1) 0 (.slice none 0 0);have g4 := cR hw3 (w.heap.size + 1) 1 (.slice none 0 0);have g5 := cR hw3 (w.heap.size + 1) 2 (.map none);have k0 := fR hw3 w.heap.size;have k1 := fR hw3 (w.heap.size + 1);have hs3 : w3.heap.size = w2.heap.size := by rw [hw3]; simp
 have hB3 : Below w.heap.size w w3 := by rw [hw3]; exact ae
 have mC : w3.ownsRow (w.heap.size + 1 + 1) 182 2 (.slice A' logs.length dU) logs.length (logs.flatMap gu) := by
  have q : w2.ownsRow (w.heap.size + 1 + 1) 182 2 (.slice A' logs.length dU) logs.length (logs.flatMap gu) := by simpa using iN
  obtain ⟨h1, h2⟩ := q;refine ⟨h1, ?_⟩;rcases h2 with h2 | ⟨g, cap, cur, e, hg, ho, h3⟩
  ·exact .inl h2
  ·exact .inr ⟨g, cap, cur, e, hg, by rw [hw3, Below.heap_setCell _ _ _ _ (by show g ≠ w.heap.size; omega)]; exact ho, h3⟩
 have BX : aB w.heap.size [.slice fA first.length fc, .slice A' logs.length dU, .map (some b)] w3 := aB.of3 g0 g1 g2 k0;have BR : aB (w.heap.size + 1) [.slice none 0 0, .slice none 0 0, .map none] w3 := aB.of3 g3 g4 g5 k1;have hnew : ∀ c o, A' = some ⟨c, o, none⟩ → w.heap.size + 1 + 1 ≤ c := fun c o e => (mC.lt c (by rw [e]; rfl)).1;rw [← hw3];have QO := aa BX;have HBR := aa BR;have qd := aa hB3;have yN := aa hnew;have SJ : w.heap.size + 1 + 1 ≤ w3.heap.size := by omega
 clear hw3 BX BR hB3 hnew iN hb2 aH aL g1o k0 k1 hs2 hz0 hz1 hs3;have lK := zL w.heap.size w3;have zY := zL (w.heap.size + 1) w3;have hoff : ∀ C, w.heap.size ≤ C → C < w.heap.size + 1 + 1 → aO.off C ⟨fA, fc, first, A', dU, gU (G t) logs, some b⟩ := fun C h1 h2 => ⟨bm.new HR.out.1.2.2 h1, (fun _ c o e => by
  have e' : A' = some ⟨c, o, none⟩ := e;have := yN.out c o e';omega), fun x hx => by
   obtain ⟨n, hn⟩ := List.mem_iff_getElem?.1 hx;rw [show gU (G t) logs = fX (fun _ => true) (G t) logs from rfl, gI, Option.map_eq_some_iff] at hn;obtain ⟨y, hy, rfl⟩ := hn;exact bm.new (HR.out.2.2.2.2 y (List.mem_of_getElem? hy)).2.2 h1⟩
 have Nw := aa hoff;clear hoff;have c0 := QO.out.at (j := 0) rfl;have c1 := QO.out.at (j := 1) rfl;have c2 := QO.out.at (j := 2) rfl;have cf := QO.out.2.1;rcases HAu.out with ⟨rfl, Jg⟩ | ⟨bi, Di, rfl, Ff, Qv, SN, V9, IP⟩
 ·have hrg : ∀ W, (Instr.range 211 (.map none)).run Tryz.prog W = .ok (.pointer (some ⟨W.heap.size, 0, none⟩)) (W.alloc (.mapIter none 0 #[] 0)) := fun W => by simp [Instr.range, run_underlying Tryz.underlying211]
  have hnx : ∀ (W : World) (a : Nat) (ty : TypeId), a = W.heap.size → (Instr.next (.pointer (some ⟨a, 0, none⟩)) false ty).run Tryz.prog (W.alloc (.mapIter none 0 #[] 0)) = .ok (.tuple #[.bool false]) (W.alloc (.mapIter none 0 #[] 0)) := fun W a ty e => by
   subst e;simp only [Instr.next, getObj, Sem.run_bind, Sem.run, Go.heap_alloc_new, Result.andThen];rfl
  have VI := aa Jg;clear Jg;go_wp2_with (first
   | (at_lookup; refine dZ _ rfl _ _ 92 rfl 3 211 dO Tryz.underlying92 jd (N5 _) (j6 none) [] rfl b 9 D rfl (dR.out.kept (aG qd.out none) sM) _ (.int .i64 ((t : Int) + 1)) rfl (keyOf_int_mk Tryz.underlying3 hwk) ?_; intro v ps hv; rw [show (j6 none : DataW Unit) = .lit (.bool false) from rfl, Hu.out] at hv; obtain rfl := pE hv; clear hv))
  refine wp_loop_rounds 1 ?_;rw [rounds_succ];go_upto_region 8 with fail
  obtain ⟨wz, Oi⟩ : ∃ W : World, W = w3.alloc (.mapIter none 0 #[] 0) := ⟨_, rfl⟩;have Cy : Below w3.heap.size w3 wz := by rw [Oi]; exact Below.alloc (Below.refl _ _) (Nat.le_refl _) _
  have hszz := Cy.size;have Ka := aa (QO.out.below Cy);have Kb := aa (HBR.out.below Cy);have Mx := aa (qd.out.trans (Cy.mono oM));have hsy : gU (G t) logs = logs := lV (fun n _ _ => VI.out n) (fun x hx => (QI.out x hx).1);obtain ⟨cA, hlc, hA⟩ := eZ mC;have hLz : aO.R wz ⟨fA, fc, first, A', dU, gU (G t) logs, some b⟩ := by
   rw [hsy];exact ⟨(HR.out.below Mx.out).1, cA, hlc, (hA.below Cy).more Cy.size, (HR.out.below Mx.out).2.2.2.2⟩
  have HZL := aa hLz;rw [← Oi];clear Oi Cy hsy hA hLz c0 c1 c2 cf g0 g1 g2 g3 g4 g5 mC hrg hnx hlc cA;have UX := aa hwk;clear hwk N5 vU Ns hla;have x0 := Ka.out.at (j := 0) rfl;have x1 := Ka.out.at (j := 1) rfl;have x2 := Ka.out.at (j := 2) rfl;have y0 := Kb.out.at (j := 0) rfl;have y1 := Kb.out.at (j := 1) rfl;have y2 := Kb.out.at (j := 2) rfl;have fx := Ka.out.2.1;have fy := Kb.out.2.1;go_wp2_with fail;refine (jV _ (dR.out.kept (aG Mx.out none) sM)).mono ?_;rintro e w5 ⟨rfl, iM, hs5, hb5⟩;have E3 := zL w.heap.size w5;have Cr := zL (w.heap.size + 1) w5;have uq := Ka.out.below hb5;have uo := Kb.out.below hb5;have v0 := uq.at (j := 0) rfl;have v1 := uq.at (j := 1) rfl;have v2 := uq.at (j := 2) rfl;have v3 := uo.at (j := 0) rfl;have v4 := uo.at (j := 1) rfl;have v5 := uo.at (j := 2) rfl;have vx := uq.2.1;have vy := uo.2.1;have Hb5 := aa hb5;clear x0 x1 x2 y0 y1 y2 fx fy uq uo hb5;go_upto_region 9 with fail
  obtain ⟨w6, dD⟩ : ∃ W : World, W = w5.setCell ⟨w.heap.size, 2, none⟩ (.map (some wz.heap.size)) := ⟨_, rfl⟩;have aW : w6.ownsMap Tryz.prog 3 jd wz.heap.size 9 D := by rw [dD]; exact iM.setCell (a := ⟨w.heap.size, 2, none⟩) (by show wz.heap.size ≠ w.heap.size; omega) _
  have hb5 := Hb5.out;have vM : Below w.heap.size w w5 := Mx.out.trans (hb5.mono oM);have pP : Below w.heap.size w w6 := by rw [dD]; exact Below.setCell vM (p := ⟨w.heap.size, 2, none⟩) (Nat.le_refl _) _
  have q0 := cR dD w.heap.size 0 (.slice fA first.length fc);have q1 := cR dD w.heap.size 1 (.slice A' logs.length dU);have q2 : w6.cell? ⟨w.heap.size, 2, none⟩ = some (.map (some wz.heap.size)) := by rw [dD]; exact World.cell?_setCell_same _ _ _ v2
  have q3 := cR dD (w.heap.size + 1) 0 (.slice none 0 0);have q4 := cR dD (w.heap.size + 1) 1 (.slice none 0 0);have q5 := cR dD (w.heap.size + 1) 2 (.map none);have p0 := fR dD w.heap.size;have p1 := fR dD (w.heap.size + 1);have hs6 : w6.heap.size = w5.heap.size := by rw [dD]; simp
  have hL6 : aO.R w6 ⟨fA, fc, first, A', dU, gU (G t) logs, some b⟩ := by rw [dD]; exact aO.R.set (HZL.out.below hb5) (Nw.out _ (Nat.le_refl _) oM) _
  rw [← dD];have QM := aa hL6;have Eb := aa pP;have Oa := zL w.heap.size w6;have aaB := zL (w.heap.size + 1) w6;clear dD hb5 vM hL6 pP v0 v1 v2 v3 v4 v5 vx vy iM;go_wp2_with (at_delete; refine wpList_delete_own _ rfl _ _ 92 3 rfl 211 dO Tryz.underlying92 jd wz.heap.size 9 D rfl aW _ (.int .i64 ((t : Int) + 1)) rfl (keyOf_int_mk Tryz.underlying3 UX.out) ?_; intro w7 kB Cs; have oI := Cs.grown; obtain ⟨g7a, g7b⟩ := bz oI (b := w.heap.size) (by first | omega | (simp; omega)) (by intro e; injection e with e; omega); obtain ⟨Pg, g7d⟩ := bz oI (b := w.heap.size + 1) (by first | omega | (simp; omega)) (by intro e; injection e with e; omega));have hs7 := oI.size;have Ng : Below w.heap.size w w7 := Below.grown Eb.out oI oM (fun j hj => by cases hj; omega);have d0 : w7.cell? ⟨w.heap.size + 1, 0, none⟩ = some (.slice none 0 0) := by rw [Pg]; exact q3
  have d1 : w7.cell? ⟨w.heap.size + 1, 1, none⟩ = some (.slice none 0 0) := by rw [Pg]; exact q4
  have d2 : w7.cell? ⟨w.heap.size + 1, 2, none⟩ = some (.map none) := by rw [Pg]; exact q5
  have abq : Below wz.heap.size w6 w7 := Below.grown (Below.refl _ _) oI oM (fun j hj => by cases hj; omega);have h37 : ∀ t : Nat, t < 8 → ∃ u, D.atKey (.int .i64 ((t : Int) + 1)) (.lit (.bool false)) = j6 u ∧ kH logs.length w7 u (G t) := fun t' Ct => by
   obtain ⟨u', e1, e2⟩ := H3.out t' Ct;exact ⟨u', e1, e2.below Ng⟩
  have hA7 : bW logs.length w7 (some wz.heap.size) (lQ G t) := bW.gone kB HK.out h37;have hfin := aa (bW.set (bW.set (bW.set hA7 (dK.of d0) (.slice fA first.length fc)) (dK.set (.of d1) _) (.slice A' logs.length dU)) (dK.set (dK.set (.of d2) _) _) (.map (some wz.heap.size)));have hL7 := aa (((aO.R.grownM QM.out oI (by obtain ⟨es, cl, hb, _⟩ := aW; exact ⟨es, cl, hb⟩)).set (Nw.out (w.heap.size + 1) oM oM) (C := w.heap.size + 1) (o := 0) (.slice fA first.length fc)).set (Nw.out (w.heap.size + 1) oM oM) (C := w.heap.size + 1) (o := 1) (.slice A' logs.length dU) |>.set (Nw.out (w.heap.size + 1) oM oM) (C := w.heap.size + 1) (o := 2) (.map (some wz.heap.size)));refine bodyPost_ret (v := .tuple #[.agg #[.slice fA first.length fc, .slice A' logs.length dU, .map (some wz.heap.size)], .int .i64 0]) (by simp [results, Tryz.results98, go_sem]; (try go_simp)) rfl ⟨A', dU, wz.heap.size, rfl, ?_, ?_, by omega, (fun c o e => by have := yN.out c o e; omega), ae⟩
  ·exact hL7.out
  ·with_reducible exact hfin.out
 ·obtain ⟨kx, rfl, aes, aer⟩ := Qv.has IP;obtain ⟨gA, rfl, Qp, abi⟩ := G7 mC oM;have BL : aB gA (logs.flatMap gu) w3 := ⟨(fQ mC).1, (fQ mC).2, abi⟩;obtain ⟨cA, hlc, -⟩ := eZ mC;have P0 := aa BL;have hbi := Ff.lt;have MS := Ff.kept (aG qd.out none) sM;have Vm := aa MS;have HKi := aa Qv;have WL := aa SN;clear BL MS Ff Qv SN IP mC;go_wp2_with (first
   | (at_lookup; refine dZ _ rfl _ _ 92 rfl 3 211 dO Tryz.underlying92 jd (N5 _) (j6 none) [] rfl b 9 D rfl (dR.out.kept (aG qd.out none) sM) _ (.int .i64 ((t : Int) + 1)) rfl (keyOf_int_mk Tryz.underlying3 hwk) ?_; intro v ps hv; rw [show (j6 none : DataW Unit) = .lit (.bool false) from rfl, Hu.out] at hv; obtain rfl := pE hv; clear hv)
   | (at_range; refine wpList_range_own _ rfl _ 211 rfl 3 3 dO Tryz.underlying211 _ bi logs.length Di rfl Vm.out ?_; intro w4 SV hg4 hs4))
  go_frame
  have Fo : Below w3.heap.size w3 w4 := Below.grown (Below.refl _ _) hg4 (Nat.le_refl _) (fun j hj => by cases hj);have hst : fX (fun n => !(Maps.has Di (.int .i64 n))) (G t) logs = logs := lV (fun n hn hp => by
   have q := WL.out n (WalkArith.wf_i64 (by have := Hl.out; omega));rw [atKey_of_not_has (by simpa using hp)] at q;exact (iL q).symm) (fun x hx => (QI.out x hx).1)
  have fV := aa hst;have QK := aa (QO.out.below Fo);have iI := aa (HBR.out.below Fo);have HL4 := aa (P0.out.below Fo);have jr := aa (qd.out.trans (Fo.mono oM));have ac4 := aa SV;have aeb := Fo.size;have UX := aa hwk;clear SV hg4 Fo hst c0 c1 c2 cf g0 g1 g2 g3 g4 g5 hwk N5 vU Ns hla
  go_loopw [6, 7] (fun _ _ wr => ∃ (left : Lit → Bool) (cnt : Nat), wr.ranges Tryz.prog 3 (plainElem Tryz.prog 3) bi w3.heap.size logs.length Di left cnt ∧ Hid (∀ kl, left kl = true → Maps.has Di kl = true) ∧ Hid (aB w.heap.size [.slice fA first.length fc, .slice (some ⟨gA, 0, none⟩) logs.length dU, .map (some b)] wr) ∧ Hid (aB (w.heap.size + 1) [.slice none 0 0, .slice none 0 0, .map none] wr) ∧ Hid (aB gA ((fX (fun n => !(left (.int .i64 n))) (G t) logs).flatMap gu) wr) ∧ Hid (Below w.heap.size w wr) ∧ w4.heap.size ≤ wr.heap.size) (fun _ _ wr => wr.rangeLeft bi w3.heap.size)
  case atStart => exact ⟨_, _, ac4.out, aa (fun _ h => h), QK, iI, aa (by rw [fV.out]; exact HL4.out), jr, Nat.le_refl _⟩
  case round =>
   obtain ⟨left, cnt, hrg, FY, HXr, WW, HLr, Xa, ae1⟩ := hrel;have WM := aa hrg;go_wp2_with (first
    | (at_next; refine wpList_next_ranges_ii _ rfl _ rfl 3 3 .i64 .i64 dO Tryz.underlying3 Tryz.underlying3 bi w3.heap.size logs.length _ _ _ rfl hrg ?_ ?_))
   ·intro _ hl0;have Hl0 := aa hl0;clear hl0 hrg;go_upto_region 8 with fail
    obtain ⟨wz, rfl⟩ : ∃ W : World, W = wr := ⟨_, rfl⟩;have hsy : fX (fun n => !(left (.int .i64 n))) (G t) logs = gU (G t) logs := by
     rw [show (fun n : Int => !(left (.int .i64 n))) = fun _ => true from funext (fun n => by rw [Hl0.out]; rfl)];rfl
    have Ka := HXr;have Kb := WW;have Mx := Xa;have hszz : w3.heap.size ≤ wz.heap.size := (by omega);have hLz : aO.R wz ⟨fA, fc, first, some ⟨gA, 0, none⟩, dU, gU (G t) logs, some b⟩ := by
     have q := HLr.out;rw [hsy] at q;have e : (gU (G t) logs).length = logs.length := nY _ _ _;have el : ((gU (G t) logs).flatMap gu).length = (gU (G t) logs).length * 2 := by
      have : ∀ l : List eQ, (l.flatMap gu).length = l.length * 2 := fun l => by
       induction l with
       | nil => rfl
       | cons a l ih => rw [List.flatMap_cons, List.length_append, ih, List.length_cons, gX]; omega
      exact this _
     exact ⟨(HR.out.below Mx.out).1, (by rw [e]; exact cA), (fun h => by cases h), ⟨el, fun _ => ⟨gA, 0, rfl, q.2.2, fun j u hu => by rw [Nat.zero_add]; exact q.1 j u hu⟩⟩, fun x hx => Gu (p := fun _ => true) (g := G t) (HR.out.below Mx.out).2.2.2.2 x hx⟩
    have HZL := aa hLz;clear hsy hLz hlc cA;have x0 := Ka.out.at (j := 0) rfl;have x1 := Ka.out.at (j := 1) rfl;have x2 := Ka.out.at (j := 2) rfl;have y0 := Kb.out.at (j := 0) rfl;have y1 := Kb.out.at (j := 1) rfl;have y2 := Kb.out.at (j := 2) rfl;have fx := Ka.out.2.1;have fy := Kb.out.2.1;go_wp2_with fail;refine (jV _ (dR.out.kept (aG Mx.out none) sM)).mono ?_;rintro e w5 ⟨rfl, iM, hs5, hb5⟩;have E3 := zL w.heap.size w5;have Cr := zL (w.heap.size + 1) w5;have uq := Ka.out.below hb5;have uo := Kb.out.below hb5;have v0 := uq.at (j := 0) rfl;have v1 := uq.at (j := 1) rfl;have v2 := uq.at (j := 2) rfl;have v3 := uo.at (j := 0) rfl;have v4 := uo.at (j := 1) rfl;have v5 := uo.at (j := 2) rfl;have vx := uq.2.1;have vy := uo.2.1;have Hb5 := aa hb5;clear x0 x1 x2 y0 y1 y2 fx fy uq uo hb5;go_upto_region 9 with fail
    obtain ⟨w6, dD⟩ : ∃ W : World, W = w5.setCell ⟨w.heap.size, 2, none⟩ (.map (some wz.heap.size)) := ⟨_, rfl⟩;have aW : w6.ownsMap Tryz.prog 3 jd wz.heap.size 9 D := (by rw [dD]; exact iM.setCell (a := ⟨w.heap.size, 2, none⟩) (by show wz.heap.size ≠ w.heap.size; omega) _);have hb5 := Hb5.out;have vM : Below w.heap.size w w5 := Mx.out.trans (hb5.mono oM);have pP : Below w.heap.size w w6 := (by rw [dD]; exact Below.setCell vM (p := ⟨w.heap.size, 2, none⟩) (Nat.le_refl _) _);have q0 := cR dD w.heap.size 0 (.slice fA first.length fc);have q1 := cR dD w.heap.size 1 (.slice (some ⟨gA, 0, none⟩) logs.length dU);have q2 : w6.cell? ⟨w.heap.size, 2, none⟩ = some (.map (some wz.heap.size)) := (by rw [dD]; exact World.cell?_setCell_same _ _ _ v2);have q3 := cR dD (w.heap.size + 1) 0 (.slice none 0 0);have q4 := cR dD (w.heap.size + 1) 1 (.slice none 0 0);have q5 := cR dD (w.heap.size + 1) 2 (.map none);have p0 := fR dD w.heap.size;have p1 := fR dD (w.heap.size + 1);have hs6 : w6.heap.size = w5.heap.size := (by rw [dD]; simp);have hL6 : aO.R w6 ⟨fA, fc, first, (some ⟨gA, 0, none⟩), dU, gU (G t) logs, some b⟩ := (by rw [dD]; exact aO.R.set (HZL.out.below hb5) (Nw.out _ (Nat.le_refl _) oM) _);rw [← dD];have QM := aa hL6;have Eb := aa pP;have Oa := zL w.heap.size w6;have aaB := zL (w.heap.size + 1) w6;clear dD hb5 vM hL6 pP v0 v1 v2 v3 v4 v5 vx vy iM;go_wp2_with (at_delete; refine wpList_delete_own _ rfl _ _ 92 3 rfl 211 dO Tryz.underlying92 jd wz.heap.size 9 D rfl aW _ (.int .i64 ((t : Int) + 1)) rfl (keyOf_int_mk Tryz.underlying3 UX.out) ?_; intro w7 kB Cs; have oI := Cs.grown; obtain ⟨g7a, g7b⟩ := bz oI (b := w.heap.size) (by first | omega | (simp; omega)) (by intro e; injection e with e; omega); obtain ⟨Pg, g7d⟩ := bz oI (b := w.heap.size + 1) (by first | omega | (simp; omega)) (by intro e; injection e with e; omega));have hs7 := oI.size;have Ng : Below w.heap.size w w7 := Below.grown Eb.out oI oM (fun j hj => by cases hj; omega);have d0 : w7.cell? ⟨w.heap.size + 1, 0, none⟩ = some (.slice none 0 0) := (by rw [Pg]; exact q3);have d1 : w7.cell? ⟨w.heap.size + 1, 1, none⟩ = some (.slice none 0 0) := (by rw [Pg]; exact q4);have d2 : w7.cell? ⟨w.heap.size + 1, 2, none⟩ = some (.map none) := (by rw [Pg]; exact q5);have abq : Below wz.heap.size w6 w7 := Below.grown (Below.refl _ _) oI oM (fun j hj => by cases hj; omega);have h37 : ∀ t : Nat, t < 8 → ∃ u, D.atKey (.int .i64 ((t : Int) + 1)) (.lit (.bool false)) = j6 u ∧ kH logs.length w7 u (G t) := fun t' Ct => by
     obtain ⟨u', e1, e2⟩ := H3.out t' Ct;exact ⟨u', e1, e2.below Ng⟩
    have hA7 : bW logs.length w7 (some wz.heap.size) (lQ G t) := bW.gone kB HK.out h37;have hfin := aa (bW.set (bW.set (bW.set hA7 (dK.of d0) (.slice fA first.length fc)) (dK.set (.of d1) _) (.slice (some ⟨gA, 0, none⟩) logs.length dU)) (dK.set (dK.set (.of d2) _) _) (.map (some wz.heap.size)));have hL7 := aa (((aO.R.grownM QM.out oI (by obtain ⟨es, cl, hb, _⟩ := aW; exact ⟨es, cl, hb⟩)).set (Nw.out (w.heap.size + 1) oM oM) (C := w.heap.size + 1) (o := 0) (.slice fA first.length fc)).set (Nw.out (w.heap.size + 1) oM oM) (C := w.heap.size + 1) (o := 1) (.slice (some ⟨gA, 0, none⟩) logs.length dU) |>.set (Nw.out (w.heap.size + 1) oM oM) (C := w.heap.size + 1) (o := 2) (.map (some wz.heap.size)));refine bodyPost_ret (v := .tuple #[.agg #[.slice fA first.length fc, .slice (some ⟨gA, 0, none⟩) logs.length dU, .map (some wz.heap.size)], .int .i64 0]) (by simp [results, Tryz.results98, go_sem]; (try go_simp)) rfl ⟨(some ⟨gA, 0, none⟩), dU, wz.heap.size, rfl, ?_, ?_, by omega, (fun c o e => by have := yN.out c o e; omega), ae⟩
    ·exact hL7.out
    ·with_reducible exact hfin.out
   ·intro x c w8 JC hwx hwc hlx hat ID LA Gc Wi hen;obtain ⟨hx0, hx1⟩ := HKi.out.has_in (FY.out _ hlx);obtain ⟨n, rfl⟩ : ∃ n : Nat, x = n := ⟨x.toNat, by omega⟩;have hnl : n < logs.length := (by omega);have hc : c = G t n := iL ((hat (.lit (.int .i64 0))).symm.trans (WL.out n hwx));subst hc;have X8 := aa (HXr.out.grown Gc (by intro e; injection e with e; omega));have R8 := aa (WW.out.grown Gc (by intro e; injection e with e; omega));have L8 := aa (HLr.out.grown Gc (by intro e; injection e with e; omega));have B8 := aa (Below.grown Xa.out Gc oM (fun j hj => by cases hj; omega));obtain ⟨lx, Lx⟩ : ∃ lx, logs[n]? = some lx := ⟨_, List.getElem?_eq_getElem hnl⟩;have vJ : (fX (fun n => !(left (.int .i64 n))) (G t) logs)[n]? = some lx := by
     rw [gI, Lx];simp [hlx]
    have Vq := aa vJ;have acb := aa Lx;have hkl := QI.out lx (List.mem_of_getElem? Lx);have hgl := QJ.out n;have v0 := X8.out.at (j := 0) rfl;have v1 := X8.out.at (j := 1) rfl;have v2 := X8.out.at (j := 2) rfl;have vf := X8.out.2.1;have lf := L8.out.2.1;have l1 : w8.cell? ⟨gA, n * 2 + 1, none⟩ = some (.int .i64 lx.kept) := L8.out.1 _ _ ((dn gX _ n lx vJ 1 oM).trans rfl);have n0 : (0 : Int) ≤ (n : Int) := (by omega);have n1 : (n : Int) < (logs.length : Int) := (by omega);have aaR : w4.heap.size ≤ w8.heap.size := (by omega);have F0 := aa ID;have Hlx := aa hlx;clear hrg ID Gc hat hlx vJ Lx hwx hwc hkl hgl;go_wp2_with fail
    go_region
    all_goals go_wp2_with fail
    have SP : (w8.setCell ⟨gA, n * 2 + 1, none⟩ (.int .i64 (max lx.kept (G t n)))).drew.ranges Tryz.prog 3 (plainElem Tryz.prog 3) bi w3.heap.size logs.length Di (fun z => left z && !z.sameKey (.int .i64 n)) JC := (F0.out.kept (Fs w8 ⟨gA, n * 2 + 1, none⟩ _) (by intro e; have e2 : bi = gA := Option.some.inj e; omega) (by intro e; have e2 : w3.heap.size = gA := Option.some.inj e; omega)).kept (aG (Below.drew (Below.refl _ _)) none) sM sM;have hset := Bz (g := G t) acb.out (show (fun m : Int => !(left (.int .i64 m))) n = false by show (!left (.int .i64 n)) = false; rw [Hlx.out]; rfl) (left_step left n);have hbx := L8.out.store (o := n * 2 + 1) (by have q := (dn gX _ n lx Vq.out 1 oM); exact (List.getElem?_eq_some_iff.1 (q.trans rfl)).1) (.int .i64 (max lx.kept (G t n)));rw [mG gX _ n 1 lx ⟨lx.A, lx.cap, lx.l, max lx.kept (G t n)⟩ _ Vq.out oM (H8 _ _), ← hset] at hbx;refine ⟨⟨_, JC, SP, aa (fun kl h => FY.out kl (JQ h)), aa (X8.out.far oM _), aa (R8.out.far oM _), aa hbx, aa (Below.drew (Below.setCell B8.out (p := ⟨gA, n * 2 + 1, none⟩) (by show w.heap.size ≤ gA; omega) _)), by simpa using aaR⟩, ?_⟩;have e1 := SP.left_eq;have e2 := WM.out.left_eq;rw [e2];exact Nat.lt_of_le_of_lt (Nat.le_of_eq e1) LA
end Go.Proofs.YtapjfhbonfehpaaGreatDoor
