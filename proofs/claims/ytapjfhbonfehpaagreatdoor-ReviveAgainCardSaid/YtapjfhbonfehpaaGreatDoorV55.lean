/- Package task: the world; dead, stopped, takes. -/
import Derived.Test.YtapjfhbonfehpaaGreatDoorV24
import Derived.Test.YtapjfhbonfehpaaGreatDoorV50
set_option linter.unusedSimpArgs false
set_option linter.unusedVariables false
set_option maxRecDepth 100000
set_option maxHeartbeats 40000000
namespace Go.Proofs.YtapjfhbonfehpaaGreatDoor
open Go.RowKit Go.Maps
structure bZ where
 c : Value
 nx : Value
 a : AS
 A : Option Addr
 m : Nat
 cp : Nat
 l : List GS
abbrev Ga (x : bZ) : Value := .agg #[x.c, x.nx, .int .i64 x.a.o, .int .i64 x.a.l, .int .i64 x.a.v, .int .u32 x.a.r, .int .u32 x.a.f, .int .i64 x.a.v2, .int .u32 x.a.r2, .int .u32 x.a.f2, .slice x.A x.m x.cp]
def gp (k : bZ) : List Value := [k.c, k.nx, .int .i64 (k.a).o, .int .i64 (k.a).l, .int .i64 (k.a).v, .int .u32 (k.a).r, .int .u32 (k.a).f, .int .i64 (k.a).v2, .int .u32 (k.a).r2, .int .u32 (k.a).f2, .slice k.A k.m k.cp]
theorem bP (k : bZ) : (gp k).length = 11 := rfl
def bZ.ok (k : bZ) : Prop := (∃ T p, k.c = .iface T p) ∧ ((∃ T p, k.nx = .func (Fn.method "Next") #[.iface T p] #[]) ∨ k.nx = .nilFunc)
structure ag where
 M : af
 tA : Option Addr
 tc : Nat
 ts : List bZ
 sA : Option Addr
 sc : Nat
 ss : List Bool
abbrev vg (x : ag) : Value := .agg #[.slice x.M.mem.pA x.M.mem.hs.length x.M.mem.pc, .slice x.M.mem.vA x.M.mem.vs.length x.M.mem.vc, .slice x.M.ln.fA x.M.ln.first.length x.M.ln.fc, .slice x.M.ln.lA x.M.ln.logs.length x.M.ln.lc, .map x.M.ln.asks, .slice x.M.sA x.M.steps.length x.M.sc, .int .i64 x.M.crashes, .slice x.tA x.ts.length x.tc, .slice x.sA x.ss.length x.sc]
def ag.R (w : World) (V : ag) : Prop := V.M.R w ∧ (V.ts.length ≤ V.tc ∧ (V.tA = none → V.ts.length = 0) ∧ Rd w w.heap.size 11 V.tA V.ts.length (V.ts.flatMap gp) ∧ ∀ k ∈ V.ts, dX w k.A k.m k.cp (k.l.flatMap uw) ∧ k.ok) ∧ (V.ss.length ≤ V.sc ∧ (V.sA = none → V.ss.length = 0) ∧ Rd w w.heap.size 1 V.sA V.ss.length (V.ss.map Value.bool))
theorem ag.R.below {w w' : World} {V : ag} (h : V.R w) (hb : Below w.heap.size w w') : V.R w' :=
 ⟨h.1.below hb, ⟨h.2.1.1, h.2.1.2.1, (h.2.1.2.2.1.below hb).more hb.size, fun k hk => ⟨(h.2.1.2.2.2 k hk).1.below hb, (h.2.1.2.2.2 k hk).2⟩⟩, h.2.2.1, h.2.2.2.1, (h.2.2.2.2.below hb).more hb.size⟩
def ag.off (C : Nat) (V : ag) : Prop := V.M.off C ∧ bm C V.ts.length V.tA ∧ bm C V.ss.length V.sA ∧ ∀ k ∈ V.ts, bm C k.m k.A
theorem ag.off_new {w : World} {V : ag} {C : Nat} (h : V.R w) (hC : w.heap.size ≤ C) : V.off C := ⟨af.off_new h.1 hC, bm.new h.2.1.2.2.1 hC, bm.new h.2.2.2.2 hC, fun k hk => by
 obtain ⟨_, _, hr⟩ := (h.2.1.2.2.2 k hk).1;exact bm.new hr hC⟩
theorem dX.set' {w : World} {A : Option Addr} {m cp C o : Nat} {xs : List Value} (h : dX w A m cp xs) (hoff : bm C m A) (x : Value) : dX (w.setCell ⟨C, o, none⟩ x) A m cp xs := by
 obtain ⟨h1, h2, h3⟩ := h;refine ⟨h1, h2, ?_⟩;rw [show (w.setCell ⟨C, o, none⟩ x).heap.size = w.heap.size by simp];exact Rd.set_off h3 hoff x
theorem ag.R.set {w : World} {V : ag} {C o : Nat} (h : V.R w) (hoff : V.off C) (hc : dK ⟨C, o, none⟩ w) (x : Value) : V.R (w.setCell ⟨C, o, none⟩ x) := by
 have es : (w.setCell ⟨C, o, none⟩ x).heap.size = w.heap.size := by simp
 refine ⟨h.1.set hoff.1 hc x, ⟨h.2.1.1, h.2.1.2.1, ?_, fun k hk => ⟨(h.2.1.2.2.2 k hk).1.set' (hoff.2.2.2 k hk) x, (h.2.1.2.2.2 k hk).2⟩⟩, h.2.2.1, h.2.2.2.1, ?_⟩
 ·rw [es]; exact Rd.set_off h.2.1.2.2.1 hoff.2.1 x
 ·rw [es]; exact Rd.set_off h.2.2.2.2 hoff.2.2.1 x
theorem sJ (V : ag) (w : World) (h : 0 < V.M.mem.vs.length) : Calls Tryz.prog 79 #[(.agg #[.slice ((V).M).mem.pA ((V).M).mem.hs.length ((V).M).mem.pc, .slice ((V).M).mem.vA ((V).M).mem.vs.length ((V).M).mem.vc, .slice ((V).M).ln.fA ((V).M).ln.first.length ((V).M).ln.fc, .slice ((V).M).ln.lA ((V).M).ln.logs.length ((V).M).ln.lc, .map ((V).M).ln.asks, .slice ((V).M).sA ((V).M).steps.length ((V).M).sc, .int .i64 ((V).M).crashes, .slice (V).tA (V).ts.length (V).tc, .slice (V).sA (V).ss.length (V).sc])] w (cd (.bool false) w) := by
 have hsz := fun W => ky V.M W;have Bn := aa hsz;have hn : ¬ ((V.M.mem.vs.length : Int) = 0) := by omega
 have hn2 : ((V.M.mem.vs.length : Int) == 0) = false := by simpa using hn
 clear hsz;go_enter Tryz.func79, Tryz.ntmps79;go_wp2_with (first | (go_at_call 53; refine rB (Bn.out _) ?_; intro w1 hb1 ar aA hs1; (try simp at hs1)));go_ret;exact ⟨rfl, ae⟩
theorem nG (V : ag) (t : Nat) (b : Bool) (w : World) (hR : V.R w) (hb : V.ss[t]? = some b) : Calls Tryz.prog 67 #[(.agg #[.slice ((V).M).mem.pA ((V).M).mem.hs.length ((V).M).mem.pc, .slice ((V).M).mem.vA ((V).M).mem.vs.length ((V).M).mem.vc, .slice ((V).M).ln.fA ((V).M).ln.first.length ((V).M).ln.fc, .slice ((V).M).ln.lA ((V).M).ln.logs.length ((V).M).ln.lc, .map ((V).M).ln.asks, .slice ((V).M).sA ((V).M).steps.length ((V).M).sc, .int .i64 ((V).M).crashes, .slice (V).tA (V).ts.length (V).tc, .slice (V).sA (V).ss.length (V).sc]), .int .i64 t] w (cd (.bool b) w) := by
 have ht : t < V.ss.length := (List.getElem?_eq_some_iff.1 hb).1;obtain ⟨bl, off, e, hbl, c0⟩ := Rd.one hR.2.2.2.2 ht hb;obtain ⟨M, tA, tc, ts, sA, sc, ss⟩ := V;simp only at e ht;subst e;have h0 : (0 : Int) ≤ (t : Int) := by omega
 have h1 : (t : Int) < (ss.length : Int) := by omega
 have hz : bl < w.heap.size + 1 := by omega
 clear hR hb;go_enter Tryz.func67, Tryz.ntmps67;go_wp2_with fail;go_ret;exact ⟨rfl, ae⟩
theorem ru (V : ag) (t : Nat) (k : bZ) (d : Bool) (w : World) (hR : V.R w) (hk : V.ts[t]? = some k) (hn : V.ts.length ≤ 1000) (hs : V.ss[t]? = some false) (hd : ∀ W, Calls Tryz.prog 69 #[(.agg #[(k).c, (k).nx, .int .i64 ((k).a).o, .int .i64 ((k).a).l, .int .i64 ((k).a).v, .int .u32 ((k).a).r, .int .u32 ((k).a).f, .int .i64 ((k).a).v2, .int .u32 ((k).a).r2, .int .u32 ((k).a).f2, .slice (k).A (k).m (k).cp])] W (cd (.bool d) W)) : Calls Tryz.prog 80 #[(.agg #[.slice ((V).M).mem.pA ((V).M).mem.hs.length ((V).M).mem.pc, .slice ((V).M).mem.vA ((V).M).mem.vs.length ((V).M).mem.vc, .slice ((V).M).ln.fA ((V).M).ln.first.length ((V).M).ln.fc, .slice ((V).M).ln.lA ((V).M).ln.logs.length ((V).M).ln.lc, .map ((V).M).ln.asks, .slice ((V).M).sA ((V).M).steps.length ((V).M).sc, .int .i64 ((V).M).crashes, .slice (V).tA (V).ts.length (V).tc, .slice (V).sA (V).ss.length (V).sc]), .int .i64 ((t : Int) + 1)] w (cd (.bool (!d)) w) := by
 have ht : t < V.ts.length := (List.getElem?_eq_some_iff.1 hk).1;have hst := fun W (h : V.R W) => nG V t false W h hs;obtain ⟨bl, off, e, hbl, hcl⟩ := Rd.elem hR.2.1.2.2.1 bP ht hk;have fV := aa hst;have Hd := aa hd;have HR := aa hR;obtain ⟨M, tA, tc, ts, sA, sc, ss⟩ := V;simp only at e ht hn;subst e;have g1 : (t : Int) + 1 ≥ 1 := by omega
 have g1' : (1 : Int) ≤ (t : Int) + 1 := by omega
 have g2 : (t : Int) + 1 ≤ (ts.length : Int) := by omega
 have h0 : (0 : Int) ≤ (t : Int) := by omega
 have h1 : (t : Int) < (ts.length : Int) := by omega
 have hw1 : IntKind.i64.wrap ((t : Int) + 1 - 1) = (t : Int) := by rw [show (t : Int) + 1 - 1 = (t : Int) by omega]; exact IntWalk.i64_in _ oM
 have hw2 : IntKind.i64.wrap (t : Int) = (t : Int) := IntWalk.i64_in _ oM;have hz : bl < w.heap.size + 1 := by omega
 have t0 : w.cell? ⟨bl, off + t * 11, none⟩ = some (k.c) := hcl 0 _ rfl;have t1 : w.cell? ⟨bl, off + t * 11 + 1, none⟩ = some (k.nx) := hcl 1 _ rfl;have t2 : w.cell? ⟨bl, off + t * 11 + 2, none⟩ = some (.int .i64 k.a.o) := hcl 2 _ rfl;have t3 : w.cell? ⟨bl, off + t * 11 + 3, none⟩ = some (.int .i64 k.a.l) := hcl 3 _ rfl;have t4 : w.cell? ⟨bl, off + t * 11 + 4, none⟩ = some (.int .i64 k.a.v) := hcl 4 _ rfl;have t5 : w.cell? ⟨bl, off + t * 11 + 5, none⟩ = some (.int .u32 k.a.r) := hcl 5 _ rfl;have t6 : w.cell? ⟨bl, off + t * 11 + 6, none⟩ = some (.int .u32 k.a.f) := hcl 6 _ rfl;have t7 : w.cell? ⟨bl, off + t * 11 + 7, none⟩ = some (.int .i64 k.a.v2) := hcl 7 _ rfl;have t8 : w.cell? ⟨bl, off + t * 11 + 8, none⟩ = some (.int .u32 k.a.r2) := hcl 8 _ rfl;have t9 : w.cell? ⟨bl, off + t * 11 + 9, none⟩ = some (.int .u32 k.a.f2) := hcl 9 _ rfl;have Df : w.cell? ⟨bl, off + t * 11 + 10, none⟩ = some (.slice k.A k.m k.cp) := hcl 10 _ rfl;clear hR hst hd hs hk hcl;go_enter Tryz.func80, Tryz.ntmps80;go_wp2_with (first
  | (go_at_call 67; refine rB (fV.out _ (HR.out.below ae)) ?_; intro w1 hb1 ar aA hs1; (try simp at hs1); have hz1 := zL w.heap.size w1; have hz2 := zL bl w1)
  | (go_at_call 69; refine rB (Hd.out _) ?_; intro w2 hb2 aH aL hs2; (try simp at hs2)))
 go_ret;exact ⟨rfl, ae⟩
end Go.Proofs.YtapjfhbonfehpaaGreatDoor
namespace Go.Proofs.YtapjfhbonfehpaaGreatDoor
open Go.RowKit
theorem Dz : (Tryz.prog.info? 157).map (fun i => (i.zero, i.size, i.bytes)) = some (some (.agg #[.nilIface, .nilFunc, .int .i64 0, .int .i64 0, .int .i64 0, .int .u32 0, .int .u32 0, .int .i64 0, .int .u32 0, .int .u32 0, .slice none 0 0]), 11, 96) := by kernel_rfl
theorem Ma (A : Option Addr) (n cap : Nat) (xs : List Value) (w : World) (hr : Rd w w.heap.size 11 A n xs) (hA : A = none → n = 0) (h1 : ∀ u ∈ xs, u.oneCell' = true) (hn : n ≤ 1000000) :
  Calls Tryz.prog 89 #[.slice A n cap] w fun e w' => ∃ A' cap', e = .returned (.slice A' n cap') ∧ w'.ownsRow w.heap.size 157 11 (.slice A' n cap') n xs ∧ Below w.heap.size w w' := by
 obtain ⟨i0, hi0, ki, jz1, kh⟩ := info_parts Dz;have hi := aa hi0;have fF := aa ki;have fw := aa jz1;have fD := aa kh;clear hi0 ki jz1 kh;have Hr := aa hr;have H1 := aa h1;cases A with
 | none =>
  obtain rfl : n = 0 := hA rfl;have hx : xs = [] := List.eq_nil_of_length_eq_zero (by simpa using hr.1);subst hx;have heq : ∀ W : World, (binOp .eql 125 (.slice none 0 cap) (.slice none 0 0)).run Tryz.prog W = .ok (.bool true) W := fun W => by kernel_rfl
  clear hr hA;go_enter Tryz.func89, Tryz.ntmps89;go_wp2_with fail;go_ret;exact ⟨none, 0, rfl, World.ownsRow_nil _ _ _ _, ae⟩
 | some a =>
  have heq : ∀ W : World, (binOp .eql 125 (.slice (some a) n cap) (.slice none 0 0)).run Tryz.prog W = .ok (.bool false) W := fun W => by kernel_rfl
  clear hr hA h1;go_enter Tryz.func89, Tryz.ntmps89;go_wp2_with (first
   | (at_builtin; refine aK rfl _ _ 125 rfl w.heap.size 157 i0 _ 11 96 Tryz.underlying125 hi.out fF.out fw.out fD.out rfl dM (.slice (some ⟨w.heap.size, 0, none⟩) 0 0) 0 [] rfl (World.ownsRow_made w #[] 0 (Nat.le_refl _) (Nat.zero_le _) rfl) (some a) n cap xs rfl w.heap.size (Hr.out.below ae) H1.out (by unfold maxLen; omega) oM sM w.heap.size w ae (Nat.le_refl _) ?_; intro v' w6 aW hb6 lL))
  rw [Nat.zero_add, List.nil_append] at aW;obtain ⟨A', cap', rfl, hcp, hbl⟩ := aX aW;go_wp2_with fail;go_ret;exact ⟨A', cap', rfl, aW, ae⟩
theorem tT (l : List bZ) (h : ∀ k ∈ l, k.ok) : ∀ u ∈ l.flatMap gp, u.oneCell' = true := by
 intro u hu;obtain ⟨k, hk, hu⟩ := List.mem_flatMap.1 hu;obtain ⟨⟨T, p, h1⟩, h2⟩ := h k hk;simp only [gp, List.mem_cons, List.not_mem_nil, or_false] at hu;rcases hu with rfl | rfl | rfl | rfl | rfl | rfl | rfl | rfl | rfl | rfl | rfl
 ·rw [h1]; rfl
 ·rcases h2 with ⟨T2, p2, h2⟩ | h2
  ·rw [h2]; rfl
  ·rw [h2]; rfl
 all_goals rfl
end Go.Proofs.YtapjfhbonfehpaaGreatDoor
namespace Go.Proofs.YtapjfhbonfehpaaGreatDoor
open Go.RowKit Go.Maps
def PI (v : Value) : Prop := ∀ (P : Program) (w : World) (a : Addr) (m : Mode), (store a v m).run P w = stored P w a v m
theorem bZ.ok.sto {k : bZ} (h : k.ok) : PI k.c ∧ PI k.nx := by
 obtain ⟨⟨T, p, h1⟩, h2⟩ := h;refine ⟨by rw [h1]; exact fun P w a m => run_store P w a _ m rfl, ?_⟩;rcases h2 with ⟨T2, p2, h2⟩ | h2
 ·rw [h2]; exact fun P w a m => run_store P w a _ m rfl
 ·rw [h2]; exact fun P w a m => run_store P w a _ m rfl
def Gn : List Value := [.slice none 0 0, .slice none 0 0, .slice none 0 0, .slice none 0 0, .map none, .slice none 0 0, .int .i64 0, .slice none 0 0, .slice none 0 0]
def yH (w w2 : World) (m2 : af) (x : W3) (ok : Bool) (tv sv : Value) (wx : World) : Prop :=
 aB w.heap.size (fo m2 ++ [tv, sv]) wx ∧ aB (w.heap.size + 1) Gn wx ∧ aB (w2.heap.size + 1) (pQ x ok) wx ∧ m2.R wx ∧ Below w.heap.size w wx ∧ w2.heap.size + 1 < wx.heap.size
theorem DY {B : Nat} {v0 v1 v2 v3 v4 v5 v6 v7 v8 : Value} {w : World} (h0 : w.cell? ⟨B, 0, none⟩ = some v0) (h1 : w.cell? ⟨B, 1, none⟩ = some v1) (h2 : w.cell? ⟨B, 2, none⟩ = some v2) (h3 : w.cell? ⟨B, 3, none⟩ = some v3) (h4 : w.cell? ⟨B, 4, none⟩ = some v4) (h5 : w.cell? ⟨B, 5, none⟩ = some v5) (h6 : w.cell? ⟨B, 6, none⟩ = some v6) (h7 : w.cell? ⟨B, 7, none⟩ = some v7) (h8 : w.cell? ⟨B, 8, none⟩ = some v8) (hf : ∀ o, w.frozen? ⟨B, o, none⟩ = false) : aB B [v0, v1, v2, v3, v4, v5, v6, v7, v8] w :=
 ⟨fun j u hu => by
  match j, hu with
  | 0, hu => injection hu with hu; subst hu; exact h0
  | 1, hu => injection hu with hu; subst hu; exact h1
  | 2, hu => injection hu with hu; subst hu; exact h2
  | 3, hu => injection hu with hu; subst hu; exact h3
  | 4, hu => injection hu with hu; subst hu; exact h4
  | 5, hu => injection hu with hu; subst hu; exact h5
  | 6, hu => injection hu with hu; subst hu; exact h6
  | 7, hu => injection hu with hu; subst hu; exact h7
  | 8, hu => injection hu with hu; subst hu; exact h8, hf, cB h0⟩
theorem JF {B : Nat} {w : World} {cs vs rest : List Value} (h : aB B (cs ++ rest) w) (hl : cs.length = vs.length) : aB B (vs ++ rest) (aQ w B 0 vs) := by
 have q : ∀ (vs cs pre : List Value) (k : Nat) {w : World}, pre.length = k → cs.length = vs.length → aB B (pre ++ (cs ++ rest)) w → aB B (pre ++ (vs ++ rest)) (aQ w B k vs) := by
  intro vs
  induction vs with
  | nil => intro cs pre k w _ hl h; have : cs = [] := List.eq_nil_of_length_eq_zero hl; subst this; exact h
  | cons x l ih =>
   intro cs pre k w hp hl h
   match cs, hl with
   | c :: cs, hl =>
    have q := h.store (o := k) (by simp; omega) x;rw [List.set_append_right _ _ oM, show k - pre.length = 0 by omega, List.cons_append, List.set_cons_zero] at q;have q2 := ih cs (pre ++ [x]) (k + 1) (w := w.setCell ⟨B, k, none⟩ x) (by simp; omega) (by simpa using hl) (by rw [List.append_assoc]; exact q);rw [List.append_assoc] at q2;exact q2
 exact q vs cs [] 0 rfl hl h
theorem abR {p : Prop} (h : p := by
 rcases Her.out with rfl | ⟨hne, em, ex, eo⟩
 ·have eb0 : eb = false := Heb.out.symm;subst eb0;have n0 := XM.out.at (j := 0) rfl; have n1 := XM.out.at (j := 1) rfl; have n2 := XM.out.at (j := 2) rfl; have n3 := XM.out.at (j := 3) rfl; have n4 := XM.out.at (j := 4) rfl; have n5 := XM.out.at (j := 5) rfl; have n6 := XM.out.at (j := 6) rfl; have fn := XM.out.2.1;have b0 := XB.out.at (j := 0) rfl; have b1 := XB.out.at (j := 1) rfl; have b2 := XB.out.at (j := 2) rfl; have b3 := XB.out.at (j := 3) rfl; have b4 := XB.out.at (j := 4) rfl; have b5 := XB.out.at (j := 5) rfl; have b6 := XB.out.at (j := 6) rfl; have fb := XB.out.2.1;go_wp2_with fail;obtain ⟨wA, qK⟩ : ∃ W : World, W = aQ w3 w.heap.size 0 (fo m2) := ⟨_, rfl⟩;have um : yH w w2 m2 x ok (.slice (some ⟨bl, off, none⟩) ts.length tc) (.slice sA ss.length sc) wA := by
   rw [qK];exact ⟨JF XB.out (by simp [fo]), aB.farFrom oM _ _ XR.out, aB.farFrom oM _ _ XG.out, af.R.fill ic.out oB XB.out.some (by simp [fo]) 0 (by simp [fo]), aZ (Nat.le_refl _) _ _ qd.out, by rw [aP]; omega⟩
  simp only [aQ, fo, Nat.zero_add, Nat.reduceAdd] at qK;rw [← qK];go_meet;exact um
 ·have em := em.symm; subst em; subst ex; subst eo;have eb1 : eb = true := by rw [← Heb.out]; simpa using hne
  subst eb1;have g0 := XG.out.at (j := 0) rfl; have g1 := XG.out.at (j := 1) rfl; have g2 := XG.out.at (j := 2) rfl; have g3 := XG.out.at (j := 3) rfl; have fg := XG.out.2.1;go_wp2_with fail;obtain ⟨wA, qK⟩ : ∃ W : World, W = aQ w3 (w2.heap.size + 1) 0 Jk := ⟨_, rfl⟩;have um : yH w w2 M ⟨0, 0, 0⟩ false (.slice (some ⟨bl, off, none⟩) ts.length tc) (.slice sA ss.length sc) wA := by
   rw [qK];exact ⟨aB.farFrom oM _ _ XB.out, aB.farFrom oM _ _ XR.out, aB.fill XG.out rfl, af.R.fill (l := Jk) ic.out oG XG.out.some (Nat.le_refl 4) 0 (Nat.le_refl 4), aZ oM _ _ qd.out, by rw [aP]; omega⟩
  simp only [aQ, Jk, Nat.zero_add, Nat.reduceAdd] at qK;rw [← qK];go_meet;exact um) : p := h
theorem ve (V : ag) (t : Nat) (ch : Int) (w : World) (hR : V.R w) (hth : 0 < V.M.mem.vs.length) (htk : ∀ W, V.R W → Calls Tryz.prog 80 #[(vg V), .int .i64 ((t : Int) + 1)] W (cd (.bool false) W)) :
  Calls Tryz.prog 68 #[(vg V), .agg #[.int .i64 0, .int .i64 ((t : Int) + 1), .int .i64 ch]] w fun e w' => e = .returned (.tuple #[(vg V), .bool false]) ∧ V.R w' ∧ Below w.heap.size w w' := by
 have hd := fun W => sJ V W hth;have Hd := aa hd;have Kw := aa htk;have HR := aa hR;clear hd htk hR;go_enter Tryz.func68, Tryz.ntmps68;go_wp2_with (first
  | (go_at_call 79; refine rB (Hd.out _) ?_; intro w1 hb1 ar aA hs1; (try simp at hs1); have Sa := zL w.heap.size w1; have R9 := zL (w.heap.size + 1) w1; have R7 := zL (w.heap.size + 1 + 1) w1)
  | (go_at_call 80; refine rB (Kw.out _ (HR.out.below ae)) ?_; intro w2 hb2 aH aL hs2; (try simp at hs2); have R6 := zL w.heap.size w2; have R5 := zL (w.heap.size + 1) w2; have R4 := zL (w.heap.size + 1 + 1) w2))
 have r0 := cE w2 (w.heap.size + 1 + 1) 0 (.slice none 0 0);have r1 := cE w2 (w.heap.size + 1 + 1) 1 (.slice none 0 0);have r2 := cE w2 (w.heap.size + 1 + 1) 2 (.slice none 0 0);have r3 := cE w2 (w.heap.size + 1 + 1) 3 (.slice none 0 0);have r4 := cE w2 (w.heap.size + 1 + 1) 4 (.map none);have r5 := cE w2 (w.heap.size + 1 + 1) 5 (.slice none 0 0);have r6 := cI w2 (w.heap.size + 1 + 1) 6 0;have r7 := cE w2 (w.heap.size + 1 + 1) 7 (.slice none 0 0);have r8 := cE w2 (w.heap.size + 1 + 1) 8 (.slice none 0 0);have WA : Below w.heap.size w w2 := ae;have oV := ag.off_new HR.out (C := w.heap.size + 1 + 1) oM;have HZ := aa (ag.R.set (ag.R.set (ag.R.set (ag.R.set (ag.R.set (ag.R.set (ag.R.set (ag.R.set (ag.R.set (HR.out.below WA) oV (.of r0) (.slice V.M.mem.pA V.M.mem.hs.length V.M.mem.pc)) oV (.set (.of r1) _) (.slice V.M.mem.vA V.M.mem.vs.length V.M.mem.vc)) oV (.set (.set (.of r2) _) _) (.slice V.M.ln.fA V.M.ln.first.length V.M.ln.fc)) oV (.set (.set (.set (.of r3) _) _) _) (.slice V.M.ln.lA V.M.ln.logs.length V.M.ln.lc)) oV (.set (.set (.set (.set (.of r4) _) _) _) _) (.map V.M.ln.asks)) oV (.set (.set (.set (.set (.set (.of r5) _) _) _) _) _) (.slice V.M.sA V.M.steps.length V.M.sc)) oV (.set (.set (.set (.set (.set (.set (.of r6) _) _) _) _) _) _) (.int .i64 V.M.crashes)) oV (.set (.set (.set (.set (.set (.set (.set (.of r7) _) _) _) _) _) _) _) (.slice V.tA V.ts.length V.tc)) oV (.set (.set (.set (.set (.set (.set (.set (.set (.of r8) _) _) _) _) _) _) _) _) (.slice V.sA V.ss.length V.sc));have HB := aa (Below.setCell (Below.setCell (Below.setCell (Below.setCell (Below.setCell (Below.setCell (Below.setCell (Below.setCell (Below.setCell WA (p := ⟨w.heap.size + 1 + 1, 0, none⟩) ko (.slice V.M.mem.pA V.M.mem.hs.length V.M.mem.pc)) (p := ⟨w.heap.size + 1 + 1, 1, none⟩) ko (.slice V.M.mem.vA V.M.mem.vs.length V.M.mem.vc)) (p := ⟨w.heap.size + 1 + 1, 2, none⟩) ko (.slice V.M.ln.fA V.M.ln.first.length V.M.ln.fc)) (p := ⟨w.heap.size + 1 + 1, 3, none⟩) ko (.slice V.M.ln.lA V.M.ln.logs.length V.M.ln.lc)) (p := ⟨w.heap.size + 1 + 1, 4, none⟩) ko (.map V.M.ln.asks)) (p := ⟨w.heap.size + 1 + 1, 5, none⟩) ko (.slice V.M.sA V.M.steps.length V.M.sc)) (p := ⟨w.heap.size + 1 + 1, 6, none⟩) ko (.int .i64 V.M.crashes)) (p := ⟨w.heap.size + 1 + 1, 7, none⟩) ko (.slice V.tA V.ts.length V.tc)) (p := ⟨w.heap.size + 1 + 1, 8, none⟩) ko (.slice V.sA V.ss.length V.sc));refine bodyPost_ret (v := .tuple #[.agg #[.slice V.M.mem.pA V.M.mem.hs.length V.M.mem.pc, .slice V.M.mem.vA V.M.mem.vs.length V.M.mem.vc, .slice V.M.ln.fA V.M.ln.first.length V.M.ln.fc, .slice V.M.ln.lA V.M.ln.logs.length V.M.ln.lc, .map V.M.ln.asks, .slice V.M.sA V.M.steps.length V.M.sc, .int .i64 V.M.crashes, .slice V.tA V.ts.length V.tc, .slice V.sA V.ss.length V.sc], .bool false]) (by simp [results, Tryz.results68, go_sem]; (try go_simp)) rfl ⟨rfl, ?_, ?_⟩
 ·with_reducible exact HZ.out
 ·with_reducible exact HB.out
theorem E0 : (Tryz.prog.info? 4).map (fun i => (i.zero, i.size, i.bytes)) = some (some (.bool false), 1, 1) := by kernel_rfl
theorem abS {p : Prop} (h : p := by
 refine wp_region_held_drew (S := (fun w' => w'.cell? ⟨w.heap.size, 0, none⟩ = some (.slice M.mem.pA M.mem.hs.length M.mem.pc) ∧ w'.cell? ⟨w.heap.size, 1, none⟩ = some (.slice M.mem.vA M.mem.vs.length M.mem.vc) ∧ w'.cell? ⟨w.heap.size, 2, none⟩ = some (.slice M.ln.fA M.ln.first.length M.ln.fc) ∧ w'.cell? ⟨w.heap.size, 3, none⟩ = some (.slice M.ln.lA M.ln.logs.length M.ln.lc) ∧ w'.cell? ⟨w.heap.size, 4, none⟩ = some (.map M.ln.asks) ∧ w'.cell? ⟨w.heap.size, 5, none⟩ = some (.slice M.sA M.steps.length M.sc) ∧ w'.cell? ⟨w.heap.size, 6, none⟩ = some (.int .i64 M.crashes))) kR C5 (fun hHeld => ?_);refine az 0 ?_;refine az 1 ?_;refine az 2 ?_;refine wR (rs := [3, 5]) ?_;focus
  refine aI (fun K hK => ?_) (aE fun K hK => ?_);focus
   refine gS (.tmp 23) (.tmp 23) 126 rfl 4 i1 _ 1 1 Tryz.underlying126 hib.out ib0.out ib1.out ib2.out .i64 .i64 n (by simp [Act.eval, Act.put]) (by simp [Act.eval, Act.put]) oM (by unfold maxLen; omega) (List.replicate n (.bool false)) (by rw [Nat.mul_one]; exact PK.out) ?_; intro w2 iN kX hz2; (try simp at hz2); have hb2 : Below _ _ w2 := qZ; have uj := (hb2).size; (try simp at uj); obtain ⟨aH, aL⟩ := bE hb2; have vG := zL w.heap.size w2; have vF := zL w1.heap.size w2;(try go_simp);go_wp2_with fail;refine oK hK C5 fun hHeld => ?_;clear hK K;refine az 4 ?_;refine wE 5 fun K hK => ?_;go_simp;go_wp2_with fail;refine oK hK C5 fun hHeld => ?_;clear hK K;refine wE 6 fun K hK => ?_;go_simp;go_wp2_with fail;refine oK hK C5 fun hHeld => ?_;clear hK K;refine wD ?_
  rotate_left 1;focus
   go_simp;go_wp2_with fail;refine oK hK C5 fun hHeld => ?_;clear hK K;refine wE 3 fun K hK => ?_;refine gS (.tmp 23) (.tmp 23) 126 rfl 4 i1 _ 1 1 Tryz.underlying126 hib.out ib0.out ib1.out ib2.out .i64 .i64 n (by simp [Act.eval, Act.put]) (by simp [Act.eval, Act.put]) oM (by unfold maxLen; omega) (List.replicate n (.bool false)) (by rw [Nat.mul_one]; exact PK.out) ?_; intro w2 iN kX hz2; (try simp at hz2); have hb2 : Below _ _ w2 := qZ; have uj := (hb2).size; (try simp at uj); obtain ⟨aH, aL⟩ := bE hb2; have vG := zL w.heap.size w2; have vF := zL w1.heap.size w2;(try go_simp);go_wp2_with fail;refine oK hK C5 fun hHeld => ?_;clear hK K;refine az 4 ?_;refine wE 6 fun K hK => ?_;go_simp;go_wp2_with fail;refine oK hK C5 fun hHeld => ?_;clear hK K;refine wD ?_
  rotate_left 1
 all_goals go_wp2_with fail
 all_goals go_meet
 all_goals have how := iN.out
 all_goals (try simp at how)
 all_goals obtain ⟨-, -, yl⟩ := eZ how
 all_goals have HL := aa yl
 all_goals clear how yl
 ·exact ⟨w2.heap.size, w1.heap.size, rfl, by omega, by omega, by omega, aB.made _ _ _, aa ((HL.out.below (Below.alloc (Below.refl _ _) (Nat.le_refl _) _)).more sM), ae⟩
 ·have hbx := (aB.store (aB.store (aB.store (aB.store (aB.store (aB.store (aB.store (aB.store (aB.store ((aB.made w1 #[.slice none 0 0, .slice none 0 0, .slice none 0 0, .slice none 0 0, .map none, .slice none 0 0, .int .i64 0, .slice none 0 0, .slice none 0 0] 128).below (w' := w2) (by with_reducible exact hb2)) (o := 0) sM (.slice M.mem.pA M.mem.hs.length M.mem.pc)) (o := 1) sM (.slice M.mem.vA M.mem.vs.length M.mem.vc)) (o := 2) sM (.slice M.ln.fA M.ln.first.length M.ln.fc)) (o := 3) sM (.slice M.ln.lA M.ln.logs.length M.ln.lc)) (o := 4) sM (.map M.ln.asks)) (o := 5) sM (.slice M.sA M.steps.length M.sc)) (o := 6) sM (.int .i64 M.crashes)) (o := 7) sM (.slice none 0 0)) (o := 8) sM (.slice (some ⟨w1.heap.size + 1, 0, none⟩) n n));simp only [List.set_cons_zero, List.set_cons_succ] at hbx;refine ⟨w1.heap.size, w1.heap.size + 1, rfl, by omega, by omega, by omega, ?_, aa (Rd.more (Rd.set_off (C := w1.heap.size) (o := 8) (Rd.set_off (C := w1.heap.size) (o := 7) (Rd.set_off (C := w1.heap.size) (o := 6) (Rd.set_off (C := w1.heap.size) (o := 5) (Rd.set_off (C := w1.heap.size) (o := 4) (Rd.set_off (C := w1.heap.size) (o := 3) (Rd.set_off (C := w1.heap.size) (o := 2) (Rd.set_off (C := w1.heap.size) (o := 1) (Rd.set_off (C := w1.heap.size) (o := 0) HL.out (bm.at oM) (.slice M.mem.pA M.mem.hs.length M.mem.pc)) (bm.at oM) (.slice M.mem.vA M.mem.vs.length M.mem.vc)) (bm.at oM) (.slice M.ln.fA M.ln.first.length M.ln.fc)) (bm.at oM) (.slice M.ln.lA M.ln.logs.length M.ln.lc)) (bm.at oM) (.map M.ln.asks)) (bm.at oM) (.slice M.sA M.steps.length M.sc)) (bm.at oM) (.int .i64 M.crashes)) (bm.at oM) (.slice none 0 0)) (bm.at oM) (.slice (some ⟨w1.heap.size + 1, 0, none⟩) n n)) sM), ae⟩
  with_reducible exact hbx) : p := h
end Go.Proofs.YtapjfhbonfehpaaGreatDoor
