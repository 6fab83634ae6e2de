/- What a machine shows; Do at every act, told purely. -/
import Derived.Test.YtapjfhbonfehpaaGreatDoorV50
import Derived.Test.YtapjfhbonfehpaaGreatDoorV51
set_option linter.unusedSimpArgs false
set_option linter.unusedVariables false
namespace Go.Proofs.YtapjfhbonfehpaaGreatDoor
open Go.RowKit Go.Maps
abbrev C8 := W3 × Int × (Int → Int)
abbrev Lg := Int × List (Int × W3)
structure MW where
 hs : List (List C8)
 vs : List (Int → Int)
 logs : List Lg
 ak : Nat → Int → Int
def zJ (g : io) : C8 := (g.x, g.t, g.a.f)
def kT (g : eQ) : Lg := (g.kept, g.l)
def ou : C8 := (⟨0, 0, 0⟩, 0, fun _ => 0)
def nQ (l : List C8) : W3 := (l.headD ou).1
def dc (m : af) (Q : MW) : Prop := m.mem.hs.map (fun h => h.l.map zJ) = Q.hs ∧ m.mem.vs.map eG.f = Q.vs ∧ m.ln.logs.map kT = Q.logs ∧ m.ln.first.length = Q.hs.length ∧ m.ak = Q.ak ∧ m.steps.length = Q.vs.length ∧ m.ln.first = Q.hs.map nQ
theorem qF {α β : Type} {f : α → β} {l : List α} {r : List β} {k : Nat} {b : β} (h : l.map f = r) (hb : r[k]? = some b) : ∃ a, l[k]? = some a ∧ f a = b := by
 rw [← h, List.getElem?_map, Option.map_eq_some_iff] at hb;exact hb
theorem bN {α β : Type} {f : α → β} {l : List α} {r : List β} (h : l.map f = r) : l.length = r.length := by rw [← h, List.length_map]
theorem getD_at {α : Type} {l : List α} {i : Nat} {a d : α} (h : l[i]? = some a) : l.getD i d = a := by
 rw [List.getD_eq_getElem?_getD, h];rfl
def fB (L : Nat) (op at_ : Int) : Bool := decide (0 ≤ op ∧ op ≤ 8 ∧ (op = 0 ∨ op = 8 ∨ (0 ≤ at_ ∧ at_ < (L : Int))))
theorem Fu {L : Nat} {a : lu} : fB L a.op a.at_ = true ↔ a.good L := by
 unfold fB lu.good;rw [decide_eq_true_eq]
def MW.seen (q : MW) (t : Nat) (f : Int → Int) : MW := ⟨q.hs, q.vs.set t f, q.logs, q.ak⟩
def MW.wrote (q : MW) (t k : Nat) (l : List C8) (f fm : Int → Int) (x : W3) (lg : Lg) : MW := ⟨q.hs.set k (l ++ [(x, (t : Int) + 1, fm)]), q.vs.set t f, q.logs.set (k / 8) (lg.1, lg.2 ++ [((k : Int), x)]), q.ak⟩
def gJ (g : Int → Int) (logs : List Lg) : List Lg := logs.mapIdx (fun n x => (max x.1 (g n), x.2))
def MW.doq (q : MW) (t : Nat) (a : lu) (c : Int) : MW × W3 × Bool :=
 let k := a.at_.toNat
 let l := q.hs.getD k []
 let f := q.vs.getD t (fun _ => 0)
 let lg := q.logs.getD (k / 8) (0, [])
 let n := l.length - 1
 let i := (cz l.length (f k) c).toNat
 if fB q.hs.length a.op a.at_ = false then (q, ⟨0, 0, 0⟩, false)
 else if a.op = 0 then (q, ⟨0, 0, 0⟩, true)
 else if a.op = 1 then (q.seen t (aJ f k i), (l.getD i ou).1, true)
 else if a.op = 2 then (q.seen t (ek (aJ f k i) (l.getD i ou).2.2), (l.getD i ou).1, true)
 else if a.op = 5 then (q.seen t (ek (aJ f k n) (l.getD n ou).2.2), (l.getD n ou).1, true)
 else if a.op = 3 then (q.wrote t k l (aJ f k l.length) (aJ (fun _ => 0) k l.length) a.new lg, ⟨0, 0, 0⟩, true)
 else if a.op = 4 then (q.wrote t k l (aJ f k l.length) (aJ f k l.length) a.new lg, ⟨0, 0, 0⟩, true)
 else if a.op = 6 then
  if ql (l.getD n ou).1 a.old then (q.wrote t k l (aJ (ek (aJ f k n) (l.getD n ou).2.2) k (n + 1 : Nat)) (aJ (ek (aJ f k n) (l.getD n ou).2.2) k (n + 1 : Nat)) a.new lg, (l.getD n ou).1, true)
  else (q.seen t (ek (aJ f k n) (l.getD n ou).2.2), (l.getD n ou).1, false)
 else if a.op = 7 then (⟨q.hs, q.vs, q.logs, pZ q.ak t ((k : Int) / 8) lg.2.length⟩, ⟨0, 0, 0⟩, true)
 else (⟨q.hs, q.vs, gJ (q.ak t) q.logs, lQ q.ak t⟩, ⟨0, 0, 0⟩, true)
theorem FO {n : Nat} {i c : Int} (hn : 0 < n) (hi : 0 ≤ i) : 0 ≤ cz n i c ∧ cz n i c < n := by
 unfold cz;simp only;generalize hm : ((n : Int) - 1 - max 0 (min i ((n : Int) - 1)) + 1) = m;have h1 : 0 < m := by omega
 have h2 := Int.emod_nonneg (max c 0) (by omega : m ≠ 0);have h3 := Int.emod_lt_of_pos (max c 0) h1;omega
structure MW.Can (q : MW) : Prop where
 hs : 0 < q.hs.length ∧ q.hs.length ≤ 4096
 th : 0 < q.vs.length ∧ q.vs.length ≤ 8
 hl : ∀ l ∈ q.hs, 0 < l.length ∧ l.length ≤ 1000
 vl : ∀ f ∈ q.vs, ∀ z, 0 ≤ f z ∧ f z ≤ 1000000
 lg : q.logs.length = (q.hs.length + 7) / 8
 lgl : ∀ g ∈ q.logs, (0 ≤ g.1 ∧ g.1 ≤ 1000000) ∧ g.2.length ≤ 1000000
def Shown (q : MW) (t : Nat) (a : lu) (c : Int) (m2 : af) (y : W3) (ok : Bool) : Prop := dc m2 (q.doq t a c).1 ∧ y = (q.doq t a c).2.1 ∧ ok = (q.doq t a c).2.2
theorem vr {m1 : af} {Q : MW} {gs sc t : Nat} {s : Int} (h : dc m1 Q) : dc (m1.stepped gs sc t s) Q := ⟨h.1, h.2.1, h.2.2.1, h.2.2.2.1, h.2.2.2.2.1, by rw [← h.2.2.2.2.2.1]; exact List.length_set, h.2.2.2.2.2.2⟩
theorem zl {g : Int → Int} {logs : List eQ} : (gU g logs).map kT = gJ g (logs.map kT) := by
 refine List.ext_getElem? (fun n => ?_);rw [show gU g logs = fX (fun _ => true) g logs from rfl, List.getElem?_map, gI];unfold gJ;rw [List.getElem?_mapIdx, List.getElem?_map];cases logs[n]? <;> rfl
section
variable {q : MW} {t : Nat} {c : Int} {a : lu}
theorem Jw (hg : fB q.hs.length a.op a.at_ = true) (ho : a.op = 8) : q.doq t a c = (⟨q.hs, q.vs, gJ (q.ak t) q.logs, lQ q.ak t⟩, ⟨0, 0, 0⟩, true) := by
 rw [ho] at hg;simp [MW.doq, hg, ho]
variable {k : Nat} {l : List C8} {f : Int → Int} {lg : Lg}
theorem FE (hg : fB q.hs.length a.op a.at_ = true) (ho : a.op = 7) (hk : a.at_.toNat = k) (i6 : q.logs[k / 8]? = some lg) : q.doq t a c = (⟨q.hs, q.vs, q.logs, pZ q.ak t ((k : Int) / 8) lg.2.length⟩, ⟨0, 0, 0⟩, true) := by
 rw [ho] at hg;simp only [MW.doq, ho, hg, hk, getD_at i6];simp
theorem Jx {i : Nat} {g : C8} (hg : fB q.hs.length a.op a.at_ = true) (ho : a.op = 1) (hk : a.at_.toNat = k) (hl : q.hs[k]? = some l) (hf : q.vs[t]? = some f) (hi : (cz l.length (f k) c).toNat = i) (hgi : l[i]? = some g) : q.doq t a c = (q.seen t (aJ f k i), g.1, true) := by
 rw [ho] at hg;simp only [MW.doq, ho, hg, hk, getD_at hl, getD_at hf, hi, getD_at hgi];simp
theorem FD (hg : fB q.hs.length a.op a.at_ = true) (ho : a.op = 3) (hk : a.at_.toNat = k) (hl : q.hs[k]? = some l) (hf : q.vs[t]? = some f) (i6 : q.logs[k / 8]? = some lg) : q.doq t a c = (q.wrote t k l (aJ f k l.length) (aJ (fun _ => 0) k l.length) a.new lg, ⟨0, 0, 0⟩, true) := by
 rw [ho] at hg;simp only [MW.doq, ho, hg, hk, getD_at hl, getD_at hf, getD_at i6];simp
end
theorem Ek {m : af} {q : MW} {t : Nat} {c : Int} {a : lu} (hQ : dc m q) (hc : q.Can) (hgb : fB q.hs.length a.op a.at_ = true) (ht : t < q.vs.length) (o8 : a.op = 8) (W : World) (hR : m.R W) : Calls Tryz.prog 98 #[.agg #[.slice m.ln.fA m.ln.first.length m.ln.fc, .slice m.ln.lA m.ln.logs.length m.ln.lc, .map m.ln.asks], .int .i64 ((t : Int) + 1)] W (yK m (Shown q t a c) W) := by
 obtain ⟨q1, q2, q3, q4, q5, q6⟩ := hQ;have l3 := bN q3;have hth := hc.th;have MU := hc.hs;have i6 := hc.lg;have hN : (m.ln.first.length + 7) / 8 = m.ln.logs.length := by rw [l3, i6, q4]
 have hsh : ∀ (lT : aO), lT.logs = gU (m.ak t) m.ln.logs → lT.first = m.ln.first → Shown q t a c ⟨m.mem, lT, m.sA, m.sc, m.steps, m.crashes, lQ m.ak t⟩ ⟨0, 0, 0⟩ true := fun lT e1 e2 => by
  unfold Shown;rw [Jw hgb o8];refine ⟨⟨q1, q2, ?_, (congrArg List.length e2).trans q4, by show lQ m.ak t = _; rw [q5], q6.1, e2.trans q6.2⟩, rfl, rfl⟩;show lT.logs.map kT = gJ (q.ak t) q.logs;rw [e1, zl, q3, q5]
 have hkp : ∀ x ∈ m.ln.logs, 0 ≤ x.kept ∧ x.kept ≤ 1000000 := fun x hx => (hc.lgl (kT x) (by rw [← q3]; exact List.mem_map_of_mem hx)).1;have hAk := hR.2.2.2.2.2;rw [hN] at hAk;rcases hAk with ⟨ha, hG⟩ | ⟨b, D, ha, hown, hK, h3⟩
 ·have hsl : gU (m.ak t) m.ln.logs = m.ln.logs := lV (fun n _ _ => hG t n) (fun x hx => (hkp x hx).1);have haz : lQ m.ak t = m.ak := FU (hG t);have hs0 := Ck m.ln t W hR.2.1 oM ha oM;refine hs0.mono ?_;rintro e w' ⟨Ig, dU, rfl, hL, hnew, hb⟩;have hb2 := hR.below hb;refine ⟨⟨m.ln.fA, m.ln.fc, m.ln.first, Ig, dU, m.ln.logs, none⟩, lQ m.ak t, rfl, hsh _ hsl.symm rfl, ⟨hb2.1, hL, hb2.2.2.1, hb2.2.2.2.1, hb2.2.2.2.2.1, ?_⟩, fun C hC h => ⟨h.1, ⟨h.2.1.1, fun _ b o e => by have := hnew b o e; omega, h.2.1.2.2⟩, h.2.2.1, fun e => by cases e⟩, hb⟩;rw [haz];exact .inl ⟨rfl, hG⟩
 ·refine (Cj m.ln t b D m.ak W hR.2.1 ha hown hK h3 oM oM hkp).mono ?_;rintro e w' ⟨Ig, dU, b', rfl, hL, hA, hb', hnew, hb⟩;have hb2 := hR.below hb;refine ⟨⟨m.ln.fA, m.ln.fc, m.ln.first, Ig, dU, gU (m.ak t) m.ln.logs, some b'⟩, lQ m.ak t, ?_, hsh _ rfl rfl, ⟨hb2.1, hL, hb2.2.2.1, hb2.2.2.2.1, hb2.2.2.2.2.1, ?_⟩, fun C hC h => ⟨h.1, ⟨h.2.1.1, fun _ b o e => by have := hnew b o e; omega, ?_⟩, h.2.2.1, fun e => by injection e with e; omega⟩, hb⟩
  ·rw [show (gU (m.ak t) m.ln.logs).length = m.ln.logs.length from nY _ _ _]
  ·rw [← hN] at hA;exact hA
  ·intro x hx;obtain ⟨n, hn⟩ := List.mem_iff_getElem?.1 hx;rw [show gU (m.ak t) m.ln.logs = fX (fun _ => true) (m.ak t) m.ln.logs from rfl, gI, Option.map_eq_some_iff] at hn;obtain ⟨y, hy, rfl⟩ := hn;exact h.2.1.2.2 y (List.mem_of_getElem? hy)
theorem CG {m : af} {q : MW} {t : Nat} {c : Int} {a : lu} (hQ : dc m q) (hc : q.Can) (hgb : fB q.hs.length a.op a.at_ = true) (hat : 0 ≤ a.at_ ∧ a.at_ < (q.hs.length : Int)) (ht : t < q.vs.length) (o7 : a.op = 7) (W : World) (hR : m.R W) : Calls Tryz.prog 97 #[.agg #[.slice m.ln.fA m.ln.first.length m.ln.fc, .slice m.ln.lA m.ln.logs.length m.ln.lc, .map m.ln.asks], .int .i64 ((t : Int) + 1), .int .i64 a.at_] W (yK m (Shown q t a c) W) := by
 obtain ⟨q1, q2, q3, q4, q5, q6⟩ := hQ;have l3 := bN q3;have hth := hc.th;have MU := hc.hs;have i6 := hc.lg;have hN : (m.ln.first.length + 7) / 8 = m.ln.logs.length := by rw [l3, i6, q4]
 obtain ⟨k, hk⟩ : ∃ k : Nat, a.at_ = k := ⟨a.at_.toNat, by omega⟩;have hkk : a.at_.toNat = k := by omega
 have hkl : k / 8 < m.ln.logs.length := by omega
 have hg := List.getElem?_eq_getElem hkl;have hq : q.logs[k / 8]? = some (kT m.ln.logs[k / 8]) := by rw [← q3, List.getElem?_map, hg]; rfl
 have hbd := (hc.lgl _ (List.mem_of_getElem? hq)).2;have hAk := hR.2.2.2.2.2;rw [hN] at hAk;rw [hk];refine (Cm m.ln t k _ m.ak W hR.2.1 hAk oM oM oM hg oM hbd).mono ?_;rintro e w' ⟨b', rfl, hA, hb', hb⟩;have hb2 := hR.below hb;rw [← hN] at hA;refine ⟨⟨m.ln.fA, m.ln.fc, m.ln.first, m.ln.lA, m.ln.lc, m.ln.logs, some b'⟩, pZ m.ak t ((k : Int) / 8) (m.ln.logs[k / 8]).l.length, rfl, ?_, ⟨hb2.1, hb2.2.1, hb2.2.2.1, hb2.2.2.2.1, hb2.2.2.2.2.1, hA⟩, fun C hC h => ⟨h.1, h.2.1, h.2.2.1, fun e => by injection e with e; omega⟩, hb⟩;unfold Shown;rw [FE hgb o7 hkk hq];exact ⟨⟨q1, q2, q3, q4, by show pZ m.ak t _ _ = _; rw [q5]; rfl, q6⟩, rfl, rfl⟩
section
variable {m : af} {q : MW} {t k : Nat} {c : Int} {a : lu}
theorem BH (hQ : dc m q) {M : af} {G c' : Nat} {v' : Option Nat} {f : Int → Int} (e : M = m.withMem (m.mem.with (some ⟨G, 0, none⟩) c' t ⟨v', f⟩)) : dc M (q.seen t f) := by
 subst e;obtain ⟨q1, q2, q3, q4, q5, q6⟩ := hQ;refine ⟨q1, ?_, q3, q4, q5, ?_⟩
 ·show (m.mem.vs.set t ⟨v', f⟩).map eG.f = q.vs.set t f;rw [List.map_set, q2]
 ·refine ⟨?_, q6.2⟩;show m.steps.length = (q.vs.set t f).length;rw [List.length_set];exact q6.1
theorem Ah {hs : List (List C8)} {k : Nat} {l : List C8} {g : C8} (h : hs[k]? = some l) (hl : 0 < l.length) : (hs.set k (l ++ [g])).map nQ = hs.map nQ := by
 refine List.ext_getElem? (fun n => ?_);rw [List.getElem?_map, List.getElem?_set, List.getElem?_map];by_cases e : k = n
 ·subst e;rw [if_pos rfl, if_pos (List.getElem?_eq_some_iff.1 h).1, h];cases l with
  | nil => simp at hl
  | cons a l => rfl
 ·rw [if_neg e]
theorem yU (hQ : dc m q) {l' : List C8} (hk : q.hs[k]? = some l') (hl' : 0 < l'.length) {l : List C8} {h : br} {lg : eQ} {f fm : Int → Int} {x : W3} {M : aS} (hl : h.l.map zJ = l) (hll : l' = l) (hM : M.hs.map (fun h => h.l.map zJ) = (m.mem.hs.map (fun h => h.l.map zJ)).set k (h.l.map zJ ++ [(x, (t : Int) + 1, fm)])) (hv : M.vs.map eG.f = (m.mem.vs.map eG.f).set t f) {g1 dU g2 cp2 : Nat} : dc ⟨M, m.ln.stored k lg x g1 dU g2 cp2, m.sA, m.sc, m.steps, m.crashes, m.ak⟩ (q.wrote t k l f fm x (kT lg)) := by
 obtain ⟨q1, q2, q3, q4, q5, q6⟩ := hQ;refine ⟨?_, ?_, ?_, ?_, q5, ?_⟩
 ·rw [hM, q1, hl];rfl
 ·rw [hv, q2];rfl
 ·show (m.ln.logs.set (k / 8) _).map kT = q.logs.set (k / 8) _;rw [List.map_set, q3];rfl
 ·show m.ln.first.length = (q.hs.set k _).length;rw [List.length_set];exact q4
 ·refine ⟨?_, ?_⟩
  ·show m.steps.length = (q.vs.set t f).length;rw [List.length_set];exact q6.1
  ·show m.ln.first = (q.hs.set k (l ++ _)).map nQ;rw [← hll, Ah hk hl'];exact q6.2
end
section
variable {m : af} {q : MW} {t k : Nat} {c : Int} {a : lu}
theorem Ey (hQ : dc m q) (hc : q.Can) (hgb : fB q.hs.length a.op a.at_ = true) (hat : 0 ≤ a.at_ ∧ a.at_ < (q.hs.length : Int)) (ht : t < q.vs.length) (hcw : (Lit.int .i64 c).wf = true) (o1 : a.op = 1) (W : World) (hR : m.R W) :
  Calls Tryz.prog 99 #[(oy m), .int .i64 ((t : Int) + 1), (Ku a), .int .i64 c] W (D3 m (Shown q t a c) W) := by
 have hQ' := hQ;obtain ⟨q1, q2, q3, q4, q5, q6⟩ := hQ';have l1 := bN q1;have l2 := bN q2;have hth := hc.th;have MU := hc.hs;obtain ⟨k, hk⟩ : ∃ k : Nat, a.at_ = k := ⟨a.at_.toNat, by omega⟩;have hkk : a.at_.toNat = k := by omega
 have hkl : k < q.hs.length := by omega
 have g1 := List.getElem?_eq_getElem hkl;have g2 := List.getElem?_eq_getElem ht;obtain ⟨h, hh, e1⟩ := qF q1 g1;obtain ⟨v, hv, e2⟩ := qF q2 g2;obtain ⟨n0, n1⟩ := hc.hl _ (List.getElem_mem hkl);have l3 := bN e1;have hvl := hc.vl _ (List.getElem_mem ht) (k : Int);have S8 : ∀ (G c' : Nat) (v' : Option Nat) (f : Int → Int), W.heap.size ≤ G → ∀ C, C < W.heap.size → m.off C → af.off C (m.withMem (m.mem.with (some ⟨G, 0, none⟩) c' t ⟨v', f⟩)) := fun G c' v' f hG C hC hm => af.withMem_off hm (aS.off_with hm.1 oM);have hin : 0 ≤ cz h.l.length (v.f k) c ∧ cz h.l.length (v.f k) c < h.l.length := FO oM (by rw [e2]; exact hvl.1);have hgi := List.getElem?_eq_getElem (l := h.l) (i := (cz h.l.length (v.f k) c).toNat) oM;have abh : q.hs[k][(cz h.l.length (v.f k) c).toNat]? = some (zJ h.l[(cz h.l.length (v.f k) c).toNat]) := by rw [← e1, List.getElem?_map, hgi]; rfl
 have hie : (cz q.hs[k].length (q.vs[t] k) c).toNat = (cz h.l.length (v.f k) c).toNat := by rw [← e2, l3]
 refine (ER m t k _ c a h _ v W o1 hk hR hh oM hgi hv oM oM oM hcw).mono ?_;rintro e w' ⟨G, v', rfl, hG, gm, hb3⟩;refine ⟨_, _, true, rfl, ?_, ⟨rfl, rfl, rfl, rfl⟩, gm, S8 _ _ _ _ hG, hb3⟩;unfold Shown;rw [Jx hgb o1 hkk g1 g2 hie abh];exact ⟨BH hQ (by rw [← e2]; rfl), rfl, rfl⟩
theorem yV (hQ : dc m q) (hc : q.Can) (hgb : fB q.hs.length a.op a.at_ = true) (hat : 0 ≤ a.at_ ∧ a.at_ < (q.hs.length : Int)) (ht : t < q.vs.length) (o3 : a.op = 3) (W : World) (hR : m.R W) :
  Calls Tryz.prog 96 #[(oy m), .int .i64 ((t : Int) + 1), (Ku a)] W (D3 m (Shown q t a c) W) := by
 have hQ' := hQ;obtain ⟨q1, q2, q3, q4, q5, q6⟩ := hQ';have l1 := bN q1;have l2 := bN q2;have l4 := bN q3;have hth := hc.th;have MU := hc.hs;have aeo := hc.lg;obtain ⟨k, hk⟩ : ∃ k : Nat, a.at_ = k := ⟨a.at_.toNat, by omega⟩;have hkk : a.at_.toNat = k := by omega
 have hkl : k < q.hs.length := by omega
 have g1 := List.getElem?_eq_getElem hkl;have g2 := List.getElem?_eq_getElem ht;have g3 := List.getElem?_eq_getElem (l := q.logs) (i := k / 8) oM;obtain ⟨h, hh, e1⟩ := qF q1 g1;obtain ⟨v, hv, e2⟩ := qF q2 g2;obtain ⟨lg, i6, e3⟩ := qF q3 g3;obtain ⟨n0, n1⟩ := hc.hl _ (List.getElem_mem hkl);have l3 := bN e1;have hlb := (hc.lgl _ (List.mem_of_getElem? g3)).2;rw [← e3] at hlb;have pN : lg.l.length ≤ 1000000 := hlb;refine (Cg m t k a h v W o3 hk hR hh hv oM oM oM lg oM i6 oM oM pN).mono ?_;rintro e w' ⟨g9, jN, g7, cap', G, v', vt', h1, dU, h2, cp2, rfl, ⟨b1, b2, b3, b4, b5⟩, gm, hb3⟩;refine ⟨_, ⟨0, 0, 0⟩, true, rfl, ?_, ⟨rfl, rfl, rfl, rfl⟩, gm, (fun C hC hm => ⟨aS.off_added hm.1 oM oM oM, aO.off_stored hm.2.1 oM oM, hm.2.2⟩), hb3⟩;unfold Shown;rw [FD hgb o3 hkk g1 g2 g3, ← e3, ← e2, ← l3];exact ⟨yU hQ g1 n0 e1 rfl (by show (m.mem.hs.set k _).map _ = _; rw [List.map_set, List.map_append]; rfl) (by show (m.mem.vs.set t _).map _ = _; rw [List.map_set]), rfl, rfl⟩
theorem L6 (hQ : dc m q) (hc : q.Can) (ht : t < q.vs.length) (hcw : (Lit.int .i64 c).wf = true) (ho : a.op = 1 ∨ a.op = 3 ∨ a.op = 7 ∨ a.op = 8) (hgb : fB q.hs.length a.op a.at_ = true) (W : World) (hR : m.R W) :
  Calls Tryz.prog 88 #[(oy m), .int .i64 ((t : Int) + 1), (Ku a), .int .i64 c] W fun e w' => ∃ (m2 : af) (y : W3) (ok : Bool) (er : Int), e = .returned (.tuple #[(oy m2), (.agg #[.int .i64 (y).v, .int .u32 (y).r, .int .u32 (y).f, .bool ok]), .int .i64 er]) ∧ (er = 0 ∨ er ≠ 0 ∧ m2 = m ∧ y = ⟨0, 0, 0⟩ ∧ ok = false) ∧ Shown q t a c m2 y ok ∧ m2.R w' ∧ (∀ C, C < W.heap.size → m.off C → m2.off C) ∧ Below W.heap.size W w' := by
 have l1 := bN hQ.1;have l2 := bN hQ.2.1;have hth := hc.th;have MU := hc.hs;have hgd := Fu.1 hgb;have hs : m.steps[t]? = some (m.steps[t]'(by have := hQ.2.2.2.2.2.1; omega)) := List.getElem?_eq_getElem _;have Tk : Kh m t a c (Shown q t a c) := by
  obtain ⟨h0, h8, hat⟩ := hgd;by_cases o8 : a.op = 8
  ·exact .inr (.inr (.inr (.inr ⟨o8, fun W hR => Ek hQ hc hgb ht o8 W hR⟩)))
  have hat' : 0 ≤ a.at_ ∧ a.at_ < (q.hs.length : Int) := by omega
  by_cases o7 : a.op = 7
  ·exact .inr (.inr (.inr (.inl ⟨o7, fun W hR => CG hQ hc hgb hat' ht o7 W hR⟩)))
  by_cases o3 : a.op = 3
  ·exact .inr (.inr (.inl ⟨.inl o3, fun W hR => yV hQ hc hgb hat' ht o3 W hR⟩))
  ·have o1 : a.op = 1 := by omega
   exact .inr (.inl ⟨.inl o1, fun W hR => Ey hQ hc hgb hat' ht hcw o1 W hR⟩)
 refine (Lf m t _ c a W _ hR oM oM hs (by have := hQ.2.2.2.2.2.1; omega) (by rw [l1]; exact hgd) Tk).mono ?_;rintro e w' ⟨m1, x, ok, gs, fh, rfl, ⟨hS, rfl, rfl⟩, oJ, hoff, hb⟩;exact ⟨_, _, _, 0, rfl, .inl rfl, ⟨vr hS, rfl, rfl⟩, oJ, hoff, hb⟩
end
end Go.Proofs.YtapjfhbonfehpaaGreatDoor
