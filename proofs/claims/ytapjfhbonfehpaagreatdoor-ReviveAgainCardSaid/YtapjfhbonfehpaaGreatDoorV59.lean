/- A step of a world with the recovery code alone. -/
import Derived.Test.YtapjfhbonfehpaaGreatDoorV46
import Derived.Test.YtapjfhbonfehpaaGreatDoorV57
import Derived.Test.YtapjfhbonfehpaaGreatDoorV58
set_option linter.unusedSimpArgs false
set_option linter.unusedVariables false
set_option maxRecDepth 100000
set_option maxHeartbeats 40000000
namespace Go.Proofs.YtapjfhbonfehpaaGreatDoor
open Go.RowKit Go.Maps
def dJ (a : AS) : lu := ⟨a.o, a.l, ⟨a.v, a.r, a.f⟩, ⟨a.v2, a.r2, a.f2⟩⟩
def RW (T C B : Int) (K : Nat) (q : MW) (r : RC × AS × Bool) (m lo : Nat) (V : ag) (hi : Nat) (W : World) : Prop := ∃ k : bZ, dc V.M q ∧ V.ts = [k] ∧ V.ss = [false] ∧ k.m = m ∧ lH T C B K r lo k hi W
theorem Ra (T C B : Int) (K : Nat) (q : MW) (r : RC × AS × Bool) (m lo : Nat) : GE lo (RW T C B K q r m lo) where
 set := fun V hi W Cb o x ⟨k, h1, h2, h3, h4, h5⟩ hl hh => ⟨k, h1, h2, h3, h4, (gT T C B K r lo).set _ _ _ _ _ _ h5 hl hh⟩
 below := fun V hi W W' ⟨k, h1, h2, h3, h4, h5⟩ hb => ⟨k, h1, h2, h3, h4, (gT T C B K r lo).below _ _ _ _ h5 hb⟩
 mono := fun V hi hi' W ⟨k, h1, h2, h3, h4, h5⟩ hh => ⟨k, h1, h2, h3, h4, (gT T C B K r lo).mono _ _ _ _ h5 hh⟩
def AV (q : MW) (a : AS) : Prop := (a.o = 1 ∨ a.o = 3 ∨ a.o = 7 ∨ a.o = 8) ∧ fB q.hs.length a.o a.l = true
def lz (T C B : Int) (N : Nat) (q : MW) (c : RC) (a : AS) : MW × RC × AS × Bool := ((q.doq 0 (dJ a) 0).1, fj T C B N (eE c (q.doq 0 (dJ a) 0).2.1))
theorem Es {T C B : Int} {N K K' : Nat} {q : MW} {c : RC} {a : AS} {m lo hi : Nat} {V : ag} {w : World} (hv : aC T C B) (hs : ai w) (hN : ah T C B 7 = (N : Int)) (lM : 0 < N) (hR : V.R w) (hq : RW T C B K q (c, a, false) m lo V hi w) (hK : (K = K' ∧ K' < hi) ∨ w.heap.size ≤ K') (hk : c.ok T C B N) (hc : q.Can) (hm : m ≤ 1000000) (hao : AV q a) (hx : W3.ok (q.doq 0 (dJ a) 0).2.1) :
  Calls Tryz.prog 68 #[(vg V), .agg #[.int .i64 0, .int .i64 1, .int .i64 0]] w fun e w' => ∃ V2 : ag, e = .returned (.tuple #[(vg V2), .bool true]) ∧ RW T C B K' (lz T C B N q c a).1 (lz T C B N q c a).2 (m + 1) w.heap.size V2 w.heap.size w' ∧ V2.R w' ∧ (∀ C, C < w.heap.size → V.off C → V2.off C) ∧ Below w.heap.size w w' := by
 obtain ⟨k, s1, s2, s3, rfl, p, hts, hcd⟩ := hq;have hk0 : V.ts[0]? = some k := by rw [s2]; rfl
 have hlen : V.ts.length ≤ 1000 := by rw [s2]; simp
 have hss : V.ss[0]? = some false := by rw [s3]; rfl
 have hvl := bN s1.2.1;have hth := hc.th;have hact := hts.act;have hka := (hact w).1;refine (sK V 0 0 w w.heap.size (RW T C B K' (lz T C B N q c a).1 (lz T C B N q c a).2 (k.m + 1) w.heap.size) (Ra ..) (Nat.le_refl _) hR oM (fun W2 oJ => ru V 0 k false W2 oJ hk0 hlen hss (fun W3 => hts.done W3)) (fun W2 hW2 oJ => ?_)).mono ?_
 ·refine (yY V 0 0 k W2 true (fun m2 y ok' => Shown q 0 (dJ a) 0 m2 y ok') w.heap.size (fun y _ k' hi' W' => k'.m = k.m + 1 ∧ lH T C B K' (fj T C B N (eE c y)) w.heap.size k' hi' W') ⟨fun x ok k' hi' W' Cb o v h hl hh => ⟨h.1, (gT T C B K' _ _).set _ _ _ _ _ _ h.2 hl hh⟩, fun x ok k' hi' W' W'' h hb => ⟨h.1, (gT T C B K' _ _).below _ _ _ _ h.2 hb⟩, fun x ok k' hi' aev W' h hh => ⟨h.1, (gT T C B K' _ _).mono _ _ _ _ h.2 hh⟩⟩ hW2.size oJ hk0 hlen (fun W => (hact W).2) (fun W3 gm => ?_) (fun m2 y ok' W3 hE hW3 hg3 => ?_)).mono ?_
  ·rw [hka];exact L6 (a := dJ a) s1 hc oM dM hao.1 hao.2 W3 gm
  ·have hy : y.ok := by rw [hE.2.1]; exact hx
   refine (FI (lo := lo) (hi := hi) (w := w) hv hs hN lM hk ⟨p, hts, hcd⟩ hK y ok' hy hm W3 (hW2.trans (hW3.mono hW2.size)) hg3).mono ?_;rintro e w' ⟨k', rfl, ⟨h1, h2⟩, h3, h4, h5, h6⟩;exact ⟨k', rfl, ⟨h2, h1⟩, h3, h4, h5, h6⟩
  ·rintro e w' ⟨m2, y, ok', k', gs, fL, rfl, ⟨hQ, hy, hok⟩, ⟨Nb, Ks⟩, dY, hoff, hb⟩;refine ⟨_, rfl, ⟨k', hQ, ?_, s3, Nb, ?_⟩, dY, hoff, hb⟩
   ·show V.ts.set 0 k' = [k'];rw [s2];rfl
   ·rw [hy] at Ks;exact Ks
 ·rintro e w' ⟨V2, rfl, h1, h2, h4, h3⟩;exact ⟨V2, rfl, h1, h2, h4, h3⟩
abbrev RS := MW × RC × AS × Bool
section
variable (T C B : Int) (N : Nat)
def lw (s : RS) : RS := if s.2.2.2 = true then s else lz T C B N s.1 s.2.1 s.2.2.1
def dh : Nat → RS → RS
 | 0, s => s
 | n + 1, s => dh n (lw T C B N s)
end
section
variable {T C B : Int} {N : Nat}
theorem kq : ∀ (n : Nat) (s : RS), dh T C B N (n + 1) s = lw T C B N (dh T C B N n s)
 | 0, _ => rfl
 | n + 1, s => by
  show dh T C B N (n + 1) (lw T C B N s) = _;rw [kq n (lw T C B N s)];rfl
theorem oc {s : RS} (h : s.2.2.2 = true) : lw T C B N s = s := by
 unfold lw;rw [if_pos h]
theorem xO (hv : aC T C B) (hN : ah T C B 7 = (N : Int)) {c : RC} (hk : c.ok T C B N) {x : W3} (hx : x.ok) : (fj T C B N (eE c x)).1.ok T C B N := by
 obtain ⟨h1, h2⟩ := uy hk hx;exact (KM hv hN (jo hv hN h1) h1 h2).1
theorem Gy (hv : aC T C B) (hN : ah T C B 7 = (N : Int)) {s : RS} (hk : s.2.1.ok T C B N) (hx : W3.ok (s.1.doq 0 (dJ s.2.2.1) 0).2.1) : (lw T C B N s).2.1.ok T C B N := by
 unfold lw;split
 ·exact hk
 ·exact xO hv hN hk hx
end
def pK (l : List C8) : W3 := (l.getD (l.length - 1) ou).1
def MW.cur (q : MW) : List W3 := q.hs.map pK
theorem L9 (q : MW) : q.cur.length = q.hs.length := by unfold MW.cur; rw [List.length_map]
theorem Pt {q : MW} {k : Nat} (h : k < q.hs.length) : q.cur.getD k z3 = pK (q.hs.getD k []) := by
 unfold MW.cur;rw [List.getD_eq_getElem?_getD, List.getElem?_map, List.getElem?_eq_getElem h, List.getD_eq_getElem?_getD, List.getElem?_eq_getElem h];rfl
theorem uN {n : Nat} {i : Int} : cz n i 0 = (n : Int) - 1 := by
 unfold cz;simp only;rw [show max (0 : Int) 0 = 0 from rfl, Int.zero_emod];omega
theorem ET (l : List C8) (g : C8) : pK (l ++ [g]) = g.1 := by
 unfold pK;rw [List.length_append, List.length_singleton, Nat.add_sub_cancel, List.getD_eq_getElem?_getD, List.getElem?_append_right (Nat.le_refl _), Nat.sub_self];rfl
section
variable {q : MW} {k : Nat}
theorem jS {op : Int} (h : k < q.hs.length) (h0 : 0 ≤ op) (h8 : op ≤ 8) : fB q.hs.length op (k : Int) = true := by
 unfold fB;rw [decide_eq_true_eq];omega
theorem H9 (hk : k < q.hs.length) : (q.doq 0 (dJ (vE k)) 0).2.1 = q.cur.getD k z3 ∧ (q.doq 0 (dJ (vE k)) 0).1.hs = q.hs ∧ (q.doq 0 (dJ (vE k)) 0).1.logs = q.logs ∧ (q.doq 0 (dJ (vE k)) 0).1.ak = q.ak := by
 have hg : fB q.hs.length (1 : Int) (k : Int) = true := jS hk dM dM;have e : q.doq 0 (dJ (vE k)) 0 = (q.seen 0 (aJ (q.vs.getD 0 (fun _ => 0)) k ((cz (q.hs.getD k []).length (q.vs.getD 0 (fun _ => 0) k) 0).toNat : Nat)), ((q.hs.getD k []).getD (cz (q.hs.getD k []).length (q.vs.getD 0 (fun _ => 0) k) 0).toNat ou).1, true) := by
  unfold MW.doq dJ vE;simp only [hg, Int.toNat_natCast];simp
 rw [e];refine ⟨?_, rfl, rfl, rfl⟩;show ((q.hs.getD k []).getD _ ou).1 = _;rw [Pt hk, uN];unfold pK;congr 2;omega
theorem Em (hk : k < q.hs.length) (x : W3) : (q.doq 0 (dJ (stA k x)) 0).1.cur = q.cur.set k x ∧ (q.doq 0 (dJ (stA k x)) 0).1.logs = q.logs.set (k / 8) ((q.logs.getD (k / 8) (0, [])).1, (q.logs.getD (k / 8) (0, [])).2 ++ [((k : Int), x)]) ∧ (q.doq 0 (dJ (stA k x)) 0).1.ak = q.ak ∧ (q.doq 0 (dJ (stA k x)) 0).2.1 = z3 := by
 have hg : fB q.hs.length (3 : Int) (k : Int) = true := jS hk dM dM;have e : ∃ f fm, q.doq 0 (dJ (stA k x)) 0 = (q.wrote 0 k (q.hs.getD k []) f fm x (q.logs.getD (k / 8) (0, [])), ⟨0, 0, 0⟩, true) := by
  unfold MW.doq dJ stA;simp only [hg, Int.toNat_natCast];refine ⟨aJ (q.vs.getD 0 (fun _ => 0)) k (q.hs.getD k []).length, aJ (fun _ => 0) k (q.hs.getD k []).length, ?_⟩;simp
 obtain ⟨f, fm, e⟩ := e;rw [e];refine ⟨?_, rfl, rfl, rfl⟩;show (q.hs.set k (q.hs.getD k [] ++ [(x, ((0 : Nat) : Int) + 1, fm)])).map pK = (q.hs.map pK).set k x;rw [List.map_set, ET]
theorem xe (hk : k < q.hs.length) : (q.doq 0 (dJ (jG k)) 0).1 = ⟨q.hs, q.vs, q.logs, pZ q.ak 0 ((k : Int) / 8) (q.logs.getD (k / 8) (0, [])).2.length⟩ ∧ (q.doq 0 (dJ (jG k)) 0).2.1 = z3 := by
 have hg : fB q.hs.length (7 : Int) (k : Int) = true := jS hk dM dM;have e : q.doq 0 (dJ (jG k)) 0 = (⟨q.hs, q.vs, q.logs, pZ q.ak 0 ((k : Int) / 8) (q.logs.getD (k / 8) (0, [])).2.length⟩, ⟨0, 0, 0⟩, true) := by
  unfold MW.doq dJ jG;simp only [hg, Int.toNat_natCast];simp
 rw [e];exact ⟨rfl, rfl⟩
theorem zk : (q.doq 0 (dJ kJ) 0).1 = ⟨q.hs, q.vs, gJ (q.ak 0) q.logs, lQ q.ak 0⟩ ∧ (q.doq 0 (dJ kJ) 0).2.1 = z3 := by
 have hg : fB q.hs.length (8 : Int) (0 : Int) = true := by
  unfold fB;rw [decide_eq_true_eq];omega
 have e : q.doq 0 (dJ kJ) 0 = (⟨q.hs, q.vs, gJ (q.ak 0) q.logs, lQ q.ak 0⟩, ⟨0, 0, 0⟩, true) := by
  unfold MW.doq dJ kJ;simp only [hg];simp
 rw [e];exact ⟨rfl, rfl⟩
end
end Go.Proofs.YtapjfhbonfehpaaGreatDoor
namespace Go.Proofs.YtapjfhbonfehpaaGreatDoor
open Go.RowKit
theorem GX {T C B : Int} {N : Nat} (hv : aC T C B) (hN : ah T C B 7 = (N : Int)) : (jP T C B).ok T C B N := by
 have hf := hv.1;obtain ⟨f1, f2, -, -, f5, f6⟩ := hf;have h7 := hv.2;have l1 : (aY T C B).length ≤ N := by
  unfold aY;have h := qE T C B (ah T C B 7).toNat;omega
 have l2 : (au T C B).length = T.toNat + B.toNat := by
  unfold au;rw [List.length_append, jO, ji]
 have l3 : (bu T C B).length = 2 * T.toNat := by
  unfold bu;exact qD T C B T.toNat
 refine ⟨by simp [jP], by simp [jP], by simp [jP], by simp [jP], ?_, by simp [jP], by simp [jP], fun a ha => ?_, fun a ha => ?_, fun a ha => ?_, by simp [jP], by simp [jP], by simp [jP], by simp [jP], by simp [jP], by simp [jP]⟩
 ·show 0 + (aY T C B).length + (au T C B).length + (bu T C B).length ≤ 9000;omega
 ·have h := pI ha;have h2 := ua hv h;exact ⟨h, h2.1, by omega⟩
 ·have h := lW hv ha;omega
 ·have h := tQ hv ha;omega
end Go.Proofs.YtapjfhbonfehpaaGreatDoor
namespace Go.Proofs.YtapjfhbonfehpaaGreatDoor
open Go.RowKit Go.Maps
section
variable (T C B : Int) (N : Nat) (ws R : List W3)
def MInv (c : RC) (q : MW) : Prop := Inv T C B N ws R c q.cur q.logs (q.ak 0)
def St (r : RC × AS × Bool) (q : MW) : Prop :=
 (r.2.2 = true ∧ q.cur = R ∧ ∃ c, MInv T C B N ws R c q) ∨
 (r.2.2 = false ∧ r.1.ld = false ∧ MInv T C B N ws R { r.1 with A := r.2.1 :: r.1.A } q) ∨
 (r.2.2 = false ∧ r.1.ld = true ∧ r.1.A = [] ∧ (∃ l L', r.1.L = l :: L' ∧ r.2.1 = vE l) ∧ MInv T C B N ws R { r.1 with ld := false } q)
end
section
variable {T C B : Int} {N : Nat} {ws R : List W3} {c : RC} {q : MW}
theorem xB (L : Lay T C B N ws R) {r : RC × AS × Bool} (h : Spin T C B N c r) : MInv T C B N ws R c q → St T C B N ws R r q := by
 induction h with
 | act c a A' hA =>
  intro hi;refine .inr (.inl ⟨rfl, hi.ld, ?_⟩);show MInv T C B N ws R { c with A := a :: A' } q;rw [← hA];exact hi
 | load c l L' hA hL =>
  intro hi;refine .inr (.inr ⟨rfl, rfl, hA, ⟨l, L', hL, rfl⟩, ?_⟩);show MInv T C B N ws R { c with ld := false } q;rw [← hi.ld];exact hi
 | done c hA hL h5 =>
  intro hi;exact .inl ⟨rfl, Ik L hi hA h5, c, hi⟩
 | turn c r hA hL h5 k ih =>
  intro hi;exact ih (Gs L hi hA hL h5)
theorem St.crash (L : Lay T C B N ws R) {r : RC × AS × Bool} (h : St T C B N ws R r q) (m : Nat → Nat) (hm : ∀ n, (q.logs.getD n (0, [])).1 ≤ (m n : Int)) : dI T C B (pJ ws q.logs m) = R := by
 rcases h with ⟨_, _, c, h⟩ | ⟨_, _, h⟩ | ⟨_, _, _, _, h⟩
 ·exact qH L h m hm
 ·exact qH L h m hm
 ·exact qH L h m hm
theorem St.kept {r : RC × AS × Bool} (h : St T C B N ws R r q) : ∀ g ∈ q.logs, 0 ≤ g.1 ∧ g.1 ≤ (g.2.length : Int) := by
 rcases h with ⟨_, _, c, h⟩ | ⟨_, _, h⟩ | ⟨_, _, _, _, h⟩
 ·exact h.kept
 ·exact h.kept
 ·exact h.kept
theorem DO {c : RC} (h : c.ld = false) (x : W3) : eE c x = c := by
 unfold eE;rw [if_neg (by rw [h]; decide)]
theorem xy (L : Lay T C B N ws R) {a : AS} (h : St T C B N ws R (c, a, false) q) (hk : c.ok T C B N) (hl : q.hs.length = N) :
  W3.ok (q.doq 0 (dJ a) 0).2.1 ∧ St T C B N ws R (lz T C B N q c a).2 (lz T C B N q c a).1 ∧ ((∃ k : Nat, k < N ∧ ((∃ x, a = stA k x) ∨ a = vE k ∨ a = jG k)) ∨ a = kJ) := by
 rcases h with ⟨h, _⟩ | ⟨_, hld, h⟩ | ⟨_, hld, hA, ⟨l, L', hL, hal⟩, h⟩
 ·cases h
 ·have hg : ∀ y, eE c y = c := DO hld;have hsp : ∀ y : W3, y.ok → Spin T C B N c (fj T C B N (eE c y)) := fun y _ => by rw [hg]; exact jo L.v L.n hk
  have hst : ∀ (y : W3) (q' : MW), y.ok → MInv T C B N ws R c q' → St T C B N ws R (fj T C B N (eE c y)) q' := fun y q' hy hi => xB L (hsp y hy) hi;unfold MInv at h;rcases I0 L h rfl with ⟨b, rfl, hA', hb0, hbN⟩ | ⟨b, l, rfl, hb, hA', hl'⟩ | ⟨rfl, hA'⟩
  ·have Aj : c.A = [] := hA';obtain ⟨k, rfl⟩ : ∃ k : Nat, b = (k : Int) := ⟨b.toNat, by omega⟩;rw [Int.toNat_natCast] at h ⊢;obtain ⟨s1, s2, s3, s4⟩ := Em (q := q) (k := k) oM (R.getD k z3);refine ⟨by rw [s4]; exact nE, ?_, .inl ⟨k, by omega, .inl ⟨_, rfl⟩⟩⟩;have h2 := EW L h (b := (k : Int)) (by show stA _ _ :: c.A = _; rw [Aj, Int.toNat_natCast]) ⟨hb0, hbN⟩;rw [Int.toNat_natCast] at h2;unfold lz;refine hst _ _ (by rw [s4]; exact nE) ?_;unfold MInv;rw [s1, s2, s3];have e : ({ ({ c with A := stA (k : Int) (R.getD k z3) :: c.A } : RC) with A := [] } : RC) = c := by
    show ({ c with A := [] } : RC) = c;rw [← Aj]
   rw [e] at h2;exact h2
  ·have Aj : c.A = l.map jG ++ [kJ] := hA';obtain ⟨k, rfl⟩ : ∃ k : Nat, b = (k : Int) := ⟨b.toNat, by omega⟩;obtain ⟨s1, s2⟩ := xe (q := q) (k := k) oM;refine ⟨by rw [s2]; exact nE, ?_, .inl ⟨k, by omega, .inr (.inr rfl)⟩⟩;have h2 := EX h (b := (k : Int)) (l := l) (by show jG _ :: c.A = _; rw [Aj]) hl' hb (k' := pZ q.ak 0 ((k : Int) / 8) (q.logs.getD (k / 8) (0, [])).2.length 0) (fun z => by
    rw [xq];unfold upd cu;rw [Int.toNat_natCast];rfl)
   unfold lz;refine hst _ _ (by rw [s2]; exact nE) ?_;rw [s1];have e : ({ ({ c with A := jG (k : Int) :: c.A } : RC) with A := l.map jG ++ [kJ] } : RC) = c := by
    show ({ c with A := l.map jG ++ [kJ] } : RC) = c;rw [← Aj]
   rw [e] at h2;exact h2
  ·have Aj : c.A = [] := hA';obtain ⟨s1, s2⟩ := zk (q := q);refine ⟨by rw [s2]; exact nE, ?_, .inr rfl⟩;have h2 := Ii L h (by show kJ :: c.A = _; rw [Aj]) (k' := lQ q.ak 0 0) (fun z => rfl);unfold lz;refine hst _ _ (by rw [s2]; exact nE) ?_;rw [s1];have e : ({ ({ c with A := kJ :: c.A } : RC) with A := [] } : RC) = c := by
    show ({ c with A := [] } : RC) = c;rw [← Aj]
   rw [e] at h2;exact h2
 ·have hAl : a = vE l := hal;have O8 : c.L = l :: L' := hL;have Ul : c.A = [] := hA;have aaZ : c.ld = true := hld;subst hAl;unfold MInv at h;obtain ⟨⟨l0, lN⟩, vJ, h2⟩ := Ij L h Ul O8;obtain ⟨k, rfl⟩ : ∃ k : Nat, l = (k : Int) := ⟨l.toNat, by omega⟩;rw [Int.toNat_natCast] at vJ h2;obtain ⟨s1, s2, s3, s4⟩ := H9 (q := q) (k := k) oM;have hok : W3.ok (q.doq 0 (dJ (vE k)) 0).2.1 := by rw [s1, vJ]; exact yy L.ok k
  refine ⟨hok, ?_, .inl ⟨k, by omega, .inr (.inl rfl)⟩⟩;have hg : eE c (q.doq 0 (dJ (vE k)) 0).2.1 = { c with F := c.F ++ [((k : Int), ws.getD k z3)], L := L', ld := false } := by
   unfold eE;rw [if_pos aaZ, s1, vJ, O8];rfl
  have hsp := jo L.v L.n (uy hk hok).1;unfold lz;refine xB L hsp ?_;rw [hg];unfold MInv MW.cur;rw [s2, s3, s4];exact h2
end
structure Bq (T N s0 : Nat) (ws : List W3) (q : MW) (s : Nat) : Prop where
 hd : q.hs.map nQ = ws
 hs : q.hs.length = N
 vs : q.vs.length = T
 hl : ∀ l ∈ q.hs, 0 < l.length ∧ l.length + s ≤ 1 + s0
 vl : ∀ f ∈ q.vs, ∀ z, 0 ≤ f z ∧ f z ≤ (s0 : Int) + 1
 lg : q.logs.length = (N + 7) / 8
 lgn : ∀ g ∈ q.logs, g.2.length + s ≤ s0
section
variable {T N s0 s s' k : Nat} {ws : List W3} {q : MW}
theorem Bq.mono (h : Bq T N s0 ws q s) (hs : s' ≤ s) : Bq T N s0 ws q s' := ⟨h.hd, h.hs, h.vs, fun l hl => by have := h.hl l hl; omega, h.vl, h.lg, fun g hg => by have := h.lgn g hg; omega⟩
theorem getD_in {α : Type} {l : List α} {i : Nat} {d : α} (h : i < l.length) : l.getD i d ∈ l := by
 rw [List.getD_eq_getElem?_getD, List.getElem?_eq_getElem h];exact List.getElem_mem h
theorem Dn (h : ∀ f ∈ q.vs, ∀ z, 0 ≤ f z ∧ f z ≤ (s0 : Int) + 1) (z : Int) : 0 ≤ q.vs.getD 0 (fun _ => 0) z ∧ q.vs.getD 0 (fun _ => 0) z ≤ (s0 : Int) + 1 := by
 by_cases h0 : 0 < q.vs.length
 ·exact h _ (getD_in h0) z
 ·rw [kD h0];omega
theorem zb {f : Int → Int} {b i : Int} (hf : ∀ z, 0 ≤ f z ∧ f z ≤ b) (hi : 0 ≤ i ∧ i ≤ b) (y : Int) : ∀ z, 0 ≤ aJ f y i z ∧ aJ f y i z ≤ b := by
 intro z;unfold aJ;split
 ·exact hf z
 ·unfold upd;split
  ·exact hi
  ·exact hf z
theorem Lh (hk : k < q.hs.length) : ∃ i : Nat, (q.doq 0 (dJ (vE k)) 0).1 = q.seen 0 (aJ (q.vs.getD 0 (fun _ => 0)) k (i : Int)) ∧ i = (q.hs.getD k []).length - 1 := by
 have hg : fB q.hs.length (1 : Int) (k : Int) = true := jS hk dM dM;refine ⟨(cz (q.hs.getD k []).length (q.vs.getD 0 (fun _ => 0) k) 0).toNat, ?_, ?_⟩
 ·unfold MW.doq dJ vE;simp only [hg, Int.toNat_natCast];simp
 ·rw [uN];omega
theorem Gv (hk : k < q.hs.length) (x : W3) : ∃ fm, (q.doq 0 (dJ (stA k x)) 0).1 = q.wrote 0 k (q.hs.getD k []) (aJ (q.vs.getD 0 (fun _ => 0)) k (q.hs.getD k []).length) fm x (q.logs.getD (k / 8) (0, [])) := by
 have hg : fB q.hs.length (3 : Int) (k : Int) = true := jS hk dM dM;refine ⟨aJ (fun _ => 0) k (q.hs.getD k []).length, ?_⟩;unfold MW.doq dJ stA;simp only [hg, Int.toNat_natCast];simp
theorem JB (h : Bq T N s0 ws q s) (hk : k < N) : Bq T N s0 ws (q.doq 0 (dJ (vE k)) 0).1 s := by
 have DI : k < q.hs.length := by rw [h.hs]; exact hk
 obtain ⟨i, e, hi⟩ := Lh DI;rw [e];have hl := h.hl _ (getD_in DI (d := []));refine ⟨h.hd, h.hs, by show (q.vs.set 0 _).length = T; rw [List.length_set]; exact h.vs, h.hl, fun f hf => ?_, h.lg, h.lgn⟩;rcases List.mem_or_eq_of_mem_set (show f ∈ q.vs.set 0 _ from hf) with hf | hf
 ·exact h.vl f hf
 ·rw [hf];exact zb (Dn h.vl) oM _
theorem FJ (h : Bq T N s0 ws q (1 + s)) (hk : k < N) (x : W3) : Bq T N s0 ws (q.doq 0 (dJ (stA k x)) 0).1 s := by
 have DI : k < q.hs.length := by rw [h.hs]; exact hk
 obtain ⟨fm, e⟩ := Gv DI x;rw [e];have hl := h.hl _ (getD_in DI (d := []));have i6 := h.lg;have hg := h.lgn _ (getD_in (l := q.logs) (i := k / 8) (d := (0, [])) oM);refine ⟨by show (q.hs.set k _).map nQ = ws; rw [Ah (by rw [List.getD_eq_getElem?_getD, List.getElem?_eq_getElem DI]; rfl) hl.1]; exact h.hd, by show (q.hs.set k _).length = N; rw [List.length_set]; exact h.hs, by show (q.vs.set 0 _).length = T; rw [List.length_set]; exact h.vs, fun l hl' => ?_, fun f hf => ?_, by show (q.logs.set _ _).length = _; rw [List.length_set]; exact h.lg, fun g MX => ?_⟩
 ·rcases List.mem_or_eq_of_mem_set (show l ∈ q.hs.set k _ from hl') with h1 | h1
  ·have := h.hl l h1;omega
  ·rw [h1, List.length_append];simp only [List.length_cons, List.length_nil];omega
 ·rcases List.mem_or_eq_of_mem_set (show f ∈ q.vs.set 0 _ from hf) with hf | hf
  ·exact h.vl f hf
  ·rw [hf];exact zb (Dn h.vl) oM _
 ·rcases List.mem_or_eq_of_mem_set (show g ∈ q.logs.set (k / 8) _ from MX) with h1 | h1
  ·have := h.lgn g h1;omega
  ·rw [h1];show (_ ++ [_]).length + s ≤ s0;rw [List.length_append];simp only [List.length_cons, List.length_nil];omega
theorem FK (h : Bq T N s0 ws q s) (hk : k < N) : Bq T N s0 ws (q.doq 0 (dJ (jG k)) 0).1 s := by
 rw [(xe (q := q) (k := k) (by rw [h.hs]; exact hk)).1];exact ⟨h.hd, h.hs, h.vs, h.hl, h.vl, h.lg, h.lgn⟩
theorem JA (h : Bq T N s0 ws q s) : Bq T N s0 ws (q.doq 0 (dJ kJ) 0).1 s := by
 rw [(zk (q := q)).1];refine ⟨h.hd, h.hs, h.vs, h.hl, h.vl, by show (gJ _ _).length = _; unfold gJ; rw [List.length_mapIdx]; exact h.lg, fun g hg => ?_⟩;obtain ⟨n, hn⟩ := List.mem_iff_getElem?.1 (show g ∈ gJ _ _ from hg);unfold gJ at hn;rw [List.getElem?_mapIdx, Option.map_eq_some_iff] at hn;obtain ⟨g0, hg0, rfl⟩ := hn;exact h.lgn g0 (List.mem_of_getElem? hg0)
end
def Dw (r : RC × AS × Bool) : Nat := (if r.2.1.o = 3 then 1 else 0) + r.1.sig
structure Good (T C B : Int) (N : Nat) (ws R : List W3) (s0 : Nat) (p0 : Int) (s : RS) (n : Nat) : Prop where
 ok : s.2.1.ok T C B N
 st : St T C B N ws R s.2 s.1
 cn : Bq T.toNat N s0 ws s.1 (Dw s.2)
 ph : s.2.2.2 = false → s.2.1.phi + (n : Int) ≤ p0
section
variable {T C B : Int} {N : Nat} {ws R : List W3} {s0 : Nat} {p0 : Int} {s : RS} {n : Nat}
theorem Good.loads (L : Lay T C B N ws R) (h : Good T C B N ws R s0 p0 s n) (hd : s.2.2.2 = false) : W3.ok (s.1.doq 0 (dJ s.2.2.1) 0).2.1 := by
 obtain ⟨q, c, a, d⟩ := s;simp only at hd;subst hd;exact (xy L h.st h.ok h.cn.hs).1
theorem Good.acts (L : Lay T C B N ws R) (h : Good T C B N ws R s0 p0 s n) (hd : s.2.2.2 = false) : AV s.1 s.2.2.1 := by
 obtain ⟨q, c, a, d⟩ := s;simp only at hd;subst hd;have MU : q.hs.length = N := h.cn.hs;obtain ⟨_, _, h3⟩ := xy L h.st h.ok MU;show AV q a;rcases h3 with ⟨k, hk, ⟨x, rfl⟩ | rfl | rfl⟩ | rfl
 ·exact ⟨.inr (.inl rfl), jS (op := 3) oM dM dM⟩
 ·exact ⟨.inl rfl, jS (op := 1) oM dM dM⟩
 ·exact ⟨.inr (.inr (.inl rfl)), jS (op := 7) oM dM dM⟩
 ·refine ⟨.inr (.inr (.inr rfl)), ?_⟩;show fB q.hs.length 8 0 = true;unfold fB;rw [decide_eq_true_eq];omega
theorem Good.step (L : Lay T C B N ws R) (h : Good T C B N ws R s0 p0 s n) : Good T C B N ws R s0 p0 (lw T C B N s) (n + 1) := by
 obtain ⟨q, c, a, d⟩ := s;cases d with
 | true =>
  rw [oc rfl];exact ⟨h.ok, h.st, h.cn, fun e => by cases e⟩
 | false =>
  have hk : c.ok T C B N := h.ok;have hst : St T C B N ws R (c, a, false) q := h.st;have MU : q.hs.length = N := h.cn.hs;obtain ⟨h1, h2, h3⟩ := xy L hst hk MU;have e : lw T C B N (q, c, a, false) = lz T C B N q c a := by unfold lw; exact if_neg (show ¬ false = true by decide)
  rw [e];obtain ⟨g1, g2⟩ := uy hk h1;obtain ⟨c1, c2⟩ := Jl hk (q.doq 0 (dJ a) 0).2.1;obtain ⟨d1, d2⟩ := vZ L.v L.n (jo L.v L.n g1) g1 g2;have hcn : Bq T.toNat N s0 ws q (Dw (c, a, false)) := h.cn;have DF : Dw (c, a, false) = (if a.o = 3 then 1 else 0) + c.sig := rfl;refine ⟨xO L.v L.n hk h1, h2, ?_, fun e => ?_⟩
  ·refine Bq.mono (s := c.sig) ?_ (by unfold Dw; show (if (fj T C B N (eE c (q.doq 0 (dJ a) 0).2.1)).2.1.o = 3 then 1 else 0) + (fj T C B N (eE c (q.doq 0 (dJ a) 0).2.1)).1.sig ≤ c.sig; omega);show Bq T.toNat N s0 ws (q.doq 0 (dJ a) 0).1 c.sig;rcases h3 with ⟨k, hk, ⟨x, rfl⟩ | rfl | rfl⟩ | rfl
   ·exact FJ (by rw [DF] at hcn; exact hcn) hk x
   ·exact JB (hcn.mono (by rw [DF]; omega)) hk
   ·exact FK (hcn.mono (by rw [DF]; omega)) hk
   ·exact JA (hcn.mono (by rw [DF]; omega))
  ·have h5 := h.ph rfl;have h6 := d2 e;show (fj T C B N (eE c (q.doq 0 (dJ a) 0).2.1)).1.phi + ((n + 1 : Nat) : Int) ≤ p0;have h7 : c.phi + (n : Int) ≤ p0 := h5;omega
theorem Good.run (L : Lay T C B N ws R) (h : Good T C B N ws R s0 p0 s 0) : ∀ i, Good T C B N ws R s0 p0 (dh T C B N i s) i
 | 0 => h
 | i + 1 => by
  rw [kq];exact (Good.run L h i).step L
theorem Good.can (L : Lay T C B N ws R) (hN : 0 < N) (hs0 : s0 ≤ 900) (h : Good T C B N ws R s0 p0 s n) : s.1.Can := by
 have hv := L.v;obtain ⟨⟨f1, f2, -, -, -, -⟩, f7⟩ := hv;have hn := L.n;have hc := h.cn;have h1 := hc.hs;have h2 := hc.vs;refine ⟨by omega, by omega, fun l hl => ?_, fun f hf z => ?_, by rw [h1]; exact hc.lg, fun g hg => ?_⟩
 ·have := hc.hl l hl;omega
 ·have := hc.vl f hf z;omega
 ·have a1 := h.st.kept g hg;have a2 := hc.lgn g hg;omega
theorem Good.ends (h : Good T C B N ws R s0 p0 s n) (hn : p0 < (n : Int)) : s.2.2.2 = true ∧ s.1.cur = R := by
 have hd : s.2.2.2 = true := by
  cases hd : s.2.2.2 with
  | true => rfl
  | false =>
   have h1 := h.ph hd;have h2 := Du h.ok;omega
 rcases h.st with ⟨_, h1, _⟩ | ⟨h1, _⟩ | ⟨h1, _⟩
 ·exact ⟨hd, h1⟩
 ·rw [hd] at h1; cases h1
 ·rw [hd] at h1; cases h1
end
def MW.new (T : Nat) (ws : List W3) : MW := ⟨ws.map (fun x => [(x, 0, fun _ => 0)]), List.replicate T (fun _ => 0), List.replicate ((ws.length + 7) / 8) (0, []), fun _ _ => 0⟩
section
variable {T C B : Int} {N : Nat} {ws R : List W3}
theorem Lc (T : Nat) (ws : List W3) : (MW.new T ws).cur = ws := by
 unfold MW.cur MW.new;rw [List.map_map];have e : (pK ∘ fun x => [(x, 0, fun _ => 0)]) = (id : W3 → W3) := by
  funext x;rfl
 rw [e, List.map_id]
theorem tj (m n : Nat) : (List.replicate m ((0, []) : Lg)).getD n (0, []) = (0, []) := by
 rw [List.getD_eq_getElem?_getD, List.getElem?_replicate];split <;> rfl
theorem Lb (L : Lay T C B N ws R) : Inv T C B N ws R (jP T C B) ws (List.replicate ((ws.length + 7) / 8) (0, [])) (fun _ => 0) := by
 have hlen := L.len;refine ⟨by show (0 : Int) ≤ 0 ∧ (0 : Int) ≤ 5; decide, rfl, hlen, by rw [List.length_replicate, hlen], ⟨fun _ h => h, L.dP⟩, ⟨fun _ h => h, L.dS⟩, ⟨fun _ h => h, L.dH⟩, fun _ => ⟨rfl, rfl⟩, fun e => ?_, fun e => ?_, fun e => ?_, fun p hp => ⟨fun _ => rfl, fun hr => ?_⟩, (fun q hq => nomatch hq), fun n e he => ?_, fun g hg => ?_, fun _ => Int.le_refl _, fun n => ?_, (fun d hd => nomatch hd), .inl ⟨rfl, rfl⟩, .inl ⟨by show (0 : Int) ≤ 1; decide, fun n e he => ?_, fun a ha => .inl ha, .inl rfl⟩⟩
 ·exact absurd (show (1 : Int) ≤ 0 from e) dM
 ·exact absurd (show (3 : Int) ≤ 0 from e) dM
 ·exact absurd (show (4 : Int) ≤ 0 from e) dM
 ·have uU : ¬ ((p : Int) ∈ aY T C B ∨ (p : Int) ∈ au T C B ∨ (p : Int) ∈ bu T C B) := hr;refine (L.out hp ?_ ?_ ?_).symm
  ·cases e : kj (aY T C B) p with
   | false => rfl
   | true => exact absurd (.inl (L.iP.1 e)) uU
  ·cases e : kj (au T C B) p with
   | false => rfl
   | true => exact absurd (.inr (.inl (L.iS.1 e))) uU
  ·cases e : kj (bu T C B) p with
   | false => rfl
   | true => exact absurd (.inr (.inr (L.iH.1 e))) uU
 ·rw [tj] at he;cases he
 ·rw [(List.mem_replicate.1 hg).2];exact ⟨Int.le_refl _, Int.le_refl _⟩
 ·rw [tj];exact Int.le_refl _
 ·rw [tj] at he;cases he
theorem pH (L : Lay T C B N ws R) : Good T C B N ws R (jP T C B).sig (jP T C B).phi (MW.new T.toNat ws, fj T C B N (eE (jP T C B) z3)) 0 := by
 have hk := GX L.v L.n;have hg : eE (jP T C B) z3 = jP T C B := DO rfl z3;rw [hg];have hsp := jo L.v L.n hk;obtain ⟨c1, c2⟩ := vZ L.v L.n hsp hk rfl;have hlen := L.len;refine ⟨?_, xB L hsp ?_, ?_, fun e => ?_⟩
 ·have := xO L.v L.n hk nE;rwa [hg] at this
 ·unfold MInv;rw [Lc];exact Lb L
 ·refine Bq.mono (s := (jP T C B).sig) ⟨?_, ?_, ?_, fun l hl => ?_, fun f hf z => ?_, ?_, fun g hg => ?_⟩ c1
  ·show (ws.map _).map nQ = ws;rw [List.map_map];have e : (nQ ∘ fun x => [(x, 0, fun _ => 0)]) = (id : W3 → W3) := by
    funext x;rfl
   rw [e, List.map_id]
  ·show (ws.map _).length = N;rw [List.length_map, hlen]
  ·show (List.replicate T.toNat _).length = T.toNat;rw [List.length_replicate]
  ·obtain ⟨x, _, rfl⟩ := List.mem_map.1 (show l ∈ ws.map _ from hl);show 0 < 1 ∧ 1 + _ ≤ 1 + _;omega
  ·rw [(List.mem_replicate.1 (show f ∈ List.replicate T.toNat _ from hf)).2];show (0 : Int) ≤ 0 ∧ (0 : Int) ≤ (((jP T C B).sig : Nat) : Int) + 1;omega
  ·show (List.replicate _ _).length = _;rw [List.length_replicate, hlen]
  ·rw [(List.mem_replicate.1 (show g ∈ List.replicate _ _ from hg)).2];show 0 + _ ≤ _;omega
 ·have h7 : (fj T C B N (jP T C B)).1.phi + 1 ≤ (jP T C B).phi := c2 e;show (fj T C B N (jP T C B)).1.phi + ((0 : Nat) : Int) ≤ (jP T C B).phi;generalize (fj T C B N (jP T C B)).1.phi = a at h7 ⊢;generalize (jP T C B).phi = b at h7 ⊢;omega
theorem wu {th : Nat} {M : af} (h : M.fresh th ws) : dc M (MW.new th ws) := by
 obtain ⟨h1, h2, h3, h4, -, h6, -, h8⟩ := h;have e1 : M.mem.hs.map (fun h => h.l.map zJ) = (M.mem.hs.map br.l).map (List.map zJ) := by rw [List.map_map]; rfl
 refine ⟨?_, ?_, ?_, ?_, ?_, ?_, ?_⟩
 ·rw [e1, h1, List.map_map];rfl
 ·rw [h2, List.map_replicate];rfl
 ·rw [h4, List.map_replicate];rfl
 ·rw [h3];show _ = (ws.map _).length;rw [List.length_map]
 ·rw [h8];rfl
 ·rw [h6, List.length_replicate];show _ = (List.replicate th _).length;rw [List.length_replicate]
 ·rw [h3];show ws = (ws.map _).map nQ;rw [List.map_map];have e : (nQ ∘ fun x => [(x, 0, fun _ => 0)]) = (id : W3 → W3) := by
   funext x;rfl
  rw [e, List.map_id]
end
def Bg (V : ag) : List Value := [.slice ((V).M).mem.pA ((V).M).mem.hs.length ((V).M).mem.pc, .slice ((V).M).mem.vA ((V).M).mem.vs.length ((V).M).mem.vc, .slice ((V).M).ln.fA ((V).M).ln.first.length ((V).M).ln.fc, .slice ((V).M).ln.lA ((V).M).ln.logs.length ((V).M).ln.lc, .map ((V).M).ln.asks, .slice ((V).M).sA ((V).M).steps.length ((V).M).sc, .int .i64 ((V).M).crashes, .slice V.tA V.ts.length V.tc, .slice V.sA V.ss.length V.sc]
theorem CU {C : Nat} {V : ag} {W : World} (h : aB C (Bg V) W) : W.cell? ⟨C, 0, none⟩ = some (.slice V.M.mem.pA V.M.mem.hs.length V.M.mem.pc) ∧ W.cell? ⟨C, 1, none⟩ = some (.slice V.M.mem.vA V.M.mem.vs.length V.M.mem.vc) ∧ W.cell? ⟨C, 2, none⟩ = some (.slice V.M.ln.fA V.M.ln.first.length V.M.ln.fc) ∧ W.cell? ⟨C, 3, none⟩ = some (.slice V.M.ln.lA V.M.ln.logs.length V.M.ln.lc) ∧ W.cell? ⟨C, 4, none⟩ = some (.map V.M.ln.asks) ∧ W.cell? ⟨C, 5, none⟩ = some (.slice V.M.sA V.M.steps.length V.M.sc) ∧ W.cell? ⟨C, 6, none⟩ = some (.int .i64 V.M.crashes) ∧ W.cell? ⟨C, 7, none⟩ = some (.slice V.tA V.ts.length V.tc) ∧ W.cell? ⟨C, 8, none⟩ = some (.slice V.sA V.ss.length V.sc) ∧ ∀ o, W.frozen? ⟨C, o, none⟩ = false := ⟨h.at (j := 0) rfl, h.at (j := 1) rfl, h.at (j := 2) rfl, h.at (j := 3) rfl, h.at (j := 4) rfl, h.at (j := 5) rfl, h.at (j := 6) rfl, h.at (j := 7) rfl, h.at (j := 8) rfl, h.2.1⟩
theorem ag.R.fill {V : ag} {W : World} {B n : Nat} {l : List Value} (h : V.R W) (hoff : V.off B) (hb : gz B n W) (hl : l.length ≤ n) (k : Nat) (hk : k + l.length ≤ n) : V.R (aQ W B k l) :=
 gY (P := fun w => V.R w) (fun _ _ x hc h => ag.R.set h hoff hc x) l k hk hb h
def Kg (T C B : Int) (N : Nat) (s : RS) (n : Nat) : Prop := ∀ i, i < n → (dh T C B N i s).2.2.2 = false → ((dh T C B N i s).1.Can ∧ W3.ok ((dh T C B N i s).1.doq 0 (dJ (dh T C B N i s).2.2.1) 0).2.1) ∧ i ≤ 1000000 ∧ AV (dh T C B N i s).1 (dh T C B N i s).2.2.1
theorem Dp {T C B : Int} {N : Nat} (hv : aC T C B) (hN : ah T C B 7 = (N : Int)) {s : RS} {n : Nat} (hk : s.2.1.ok T C B N) (hf : Kg T C B N s n) : ∀ i, i ≤ n → (dh T C B N i s).2.1.ok T C B N
 | 0, _ => hk
 | i + 1, hi => by
  rw [kq];have h := Dp hv hN hk hf i oM;cases hd : (dh T C B N i s).2.2.2 with
  | true => rw [oc hd]; exact h
  | false => exact Gy hv hN h (hf i oM hd).1.2
theorem wG {T C B : Int} {N : Nat} {s : RS} {k : Nat} (h : (dh T C B N k s).2.2.2 = true) : ∀ j, dh T C B N (k + j) s = dh T C B N k s
 | 0 => rfl
 | j + 1 => by
  rw [show k + (j + 1) = (k + j) + 1 by omega, kq, wG h j, oc h]
theorem lH.to {T C B : Int} {K K' : Nat} {r : RC × AS × Bool} {lo hi : Nat} {k : bZ} {w W : World} (h : lH T C B K r lo k hi w) (hK : (K = K' ∧ K' < hi) ∨ w.heap.size ≤ K') (hb : Below w.heap.size w W) (hi' : Nat) : lH T C B K' r w.heap.size k hi' W := by
 obtain ⟨p, h1, h2⟩ := h;exact ⟨p, h1, h2.to hK hb hi'⟩
def JX (T C B : Int) (K : Nat) (q : MW) (r : RC × AS × Bool) (n : Nat) (V : ag) (W : World) : Prop := ∃ k : bZ, dc V.M q ∧ V.ts = [k] ∧ V.ss = [false] ∧ (r.2.2 = false → k.m = n) ∧ lH T C B K r W.heap.size k W.heap.size W
theorem JX.below {T C B : Int} {K n : Nat} {q : MW} {r : RC × AS × Bool} {V : ag} {W W' : World} (h : JX T C B K q r n V W) (hK : K < W.heap.size) (hb : Below W.heap.size W W') : JX T C B K q r n V W' := by
 obtain ⟨k, h1, h2, h3, h4, h5⟩ := h;have h6 := h5.to (K' := K) (.inl ⟨rfl, hK⟩) (Below.refl _ _) W'.heap.size;exact ⟨k, h1, h2, h3, h4, ((gT T C B K r W.heap.size).below _ _ _ _ h6 hb).to (.inl ⟨rfl, Nat.lt_of_lt_of_le hK hb.size⟩) (Below.refl _ _) W'.heap.size⟩
theorem ir.fill {T C B : Int} {K : Nat} {c : RC} {lo hi : Nat} {p : Value} {W : World} (h : ir T C B K c lo p hi W) (hK : K < hi) (o : Nat) (x : Value) : ir T C B K c lo p hi (W.setCell ⟨K, o, none⟩ x) := by
 obtain ⟨v, h1, h2, h3, h4, h5⟩ := h;exact ⟨v, h1, h2, h3, h4, h5.set ⟨.inr rfl, hK⟩ x⟩
theorem JX.fill {T C B : Int} {K n : Nat} {q : MW} {r : RC × AS × Bool} {V : ag} : ∀ (l : List Value) (j : Nat) {W : World}, K < W.heap.size → JX T C B K q r n V W → JX T C B K q r n V (aQ W K j l)
 | [], _, _, _, h => h
 | x :: l, j, W, hlt, h => by
  refine JX.fill l (j + 1) (by simpa using hlt) ?_;obtain ⟨k, h1, h2, h3, h4, p, h5, h6⟩ := h;have e : (W.setCell ⟨K, j, none⟩ x).heap.size = W.heap.size := by simp
  refine ⟨k, h1, h2, h3, h4, p, h5, ?_⟩;rw [e];exact h6.fill hlt j x
structure gj (T C B : Int) (N : Nat) (s : RS) (b : Nat) (w : World) (F : ag) (k : Nat) (V : ag) (W : World) : Prop where
 R : V.R W
 x : aB b (Bg V) W
 y : gz (b + 1) 9 W
 o : (V.off b ∧ V.off (b + 1)) ∧ ∀ D, D < b → F.off D → V.off D
 q : JX T C B b (dh T C B N k s).1 (dh T C B N k s).2 k V W
 B : Below b w W
 z : b + 1 < W.heap.size
section
variable {T C B : Int} {N b k : Nat} {s : RS} {w W W' : World} {F V : ag}
theorem gj.below (h : gj T C B N s b w F k V W) (hb : Below W.heap.size W W') (hbw : w.heap.size = b) : gj T C B N s b w F k V W' :=
 ⟨h.R.below hb, h.x.below hb, h.y.below hb, h.o, h.q.below (by have := h.z; omega) hb, h.B.trans (hb.mono (by have := h.z; omega)), Nat.lt_of_lt_of_le h.z hb.size⟩
theorem gj.fill {V0 : ag} (hR : V.R W) (hx : aB b (Bg V0) W) (hy : gz (b + 1) 9 W) (ho : (V.off b ∧ V.off (b + 1)) ∧ ∀ D, D < b → F.off D → V.off D) (hq : JX T C B b (dh T C B N k s).1 (dh T C B N k s).2 k V W) (hB : Below b w W) (hz : b + 1 < W.heap.size) : gj T C B N s b w F k V (aQ W b 0 (Bg V)) := by
 refine ⟨hR.fill ho.1.1 hx.some (by exact Nat.le_refl 9) 0 (by exact Nat.le_refl 9), hx.fill rfl, ?_, ho, JX.fill _ 0 oM hq, aZ (Nat.le_refl _) _ _ hB, by rw [aP]; exact hz⟩;exact gY (P := fun w => gz (b + 1) 9 w) (n := 9) (fun _ o x _ h => gz.set h (fun e => by omega) x) (Bg V) 0 (by exact Nat.le_refl 9) hx.some hy
theorem CY (hv : aC T C B) (hs : ai W) (hN : ah T C B 7 = (N : Int)) (lM : 0 < N) (h : gj T C B N s b w F k V W) (hd : (dh T C B N k s).2.2.2 = false) (hf : ((dh T C B N k s).1.Can ∧ W3.ok ((dh T C B N k s).1.doq 0 (dJ (dh T C B N k s).2.2.1) 0).2.1) ∧ k ≤ 1000000 ∧ AV (dh T C B N k s).1 (dh T C B N k s).2.2.1) (hk : (dh T C B N k s).2.1.ok T C B N) :
  Calls Tryz.prog 68 #[(vg V), .agg #[.int .i64 0, .int .i64 1, .int .i64 0]] W fun e w' => ∃ V2 : ag, e = .returned (.tuple #[(vg V2), .bool true]) ∧ V2.R w' ∧ ((V2.off b ∧ V2.off (b + 1)) ∧ ∀ D, D < b → F.off D → V2.off D) ∧ JX T C B b (dh T C B N (k + 1) s).1 (dh T C B N (k + 1) s).2 (k + 1) V2 w' ∧ Below W.heap.size W w' := by
 have hz := h.z;have hq := h.q;rw [kq];unfold lw;rw [if_neg (by rw [hd]; decide)];obtain ⟨⟨hc, hx⟩, Wm, hao⟩ := hf;generalize dh T C B N k s = r at *;obtain ⟨q, c, a, d⟩ := r;simp only at hd;subst hd;obtain ⟨y, h1, h2, h3, h4, h5⟩ := hq;have hm := h4 rfl;refine (Es (K := b) (K' := b) (lo := W.heap.size) (hi := W.heap.size) (m := k) hv hs hN lM h.R ⟨y, h1, h2, h3, hm, h5⟩ (.inl ⟨rfl, by omega⟩) hk hc Wm hao hx).mono ?_;rintro e w' ⟨V2, rfl, ⟨y2, g1, g2, g3, g4, g5⟩, oJ, hoff, hb⟩;have hsz := hb.size;exact ⟨V2, rfl, oJ, ⟨⟨hoff b oM h.o.1.1, hoff (b + 1) oM h.o.1.2⟩, fun D hD hF => hoff D oM (h.o.2 D hD hF)⟩, ⟨y2, g1, g2, g3, fun _ => g4, g5.to (.inl ⟨rfl, by omega⟩) (Below.refl _ _) w'.heap.size⟩, hb⟩
theorem CZ (h : gj T C B N s b w F k V W) (hd : (dh T C B N k s).2.2.2 = true) (hth : 0 < (dh T C B N k s).1.vs.length) :
  Calls Tryz.prog 68 #[(vg V), .agg #[.int .i64 0, .int .i64 1, .int .i64 0]] W (cd (.tuple #[(vg V), .bool false]) W) := by
 obtain ⟨y, h1, h2, h3, h4, p, h5, h6⟩ := h.q;rw [hd] at h5;have hk0 : V.ts[0]? = some y := by rw [h2]; rfl
 have hlen : V.ts.length ≤ 1000 := by rw [h2]; simp
 have hss : V.ss[0]? = some false := by rw [h3]; rfl
 have hvl := bN h1.2.1;refine (ve V 0 0 W h.R oM (fun W2 oJ => ru V 0 y true W2 oJ hk0 hlen hss (fun W3 => h5.done W3))).mono ?_;rintro e w' ⟨rfl, _, hb⟩;exact ⟨rfl, hb⟩
end
end Go.Proofs.YtapjfhbonfehpaaGreatDoor
