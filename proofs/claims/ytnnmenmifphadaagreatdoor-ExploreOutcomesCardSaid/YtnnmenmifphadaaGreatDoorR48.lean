/- ExploreOutcomes: Outcome agrees with its specification, equal keys have equal outcomes, Key is deterministic, every step changes the key. -/
import Derived.Test.YtnnmenmifphadaaGreatDoorCards
import Derived.Test.YtnnmenmifphadaaGreatDoorTie
import Derived.Laws.IdiomArrays
import Derived.Laws.OwnMore
import Derived.Deep.RegionHeld3
import Derived.Test.YtnnmenmifphadaaGreatDoorR03
import Derived.Test.YtnnmenmifphadaaGreatDoorR05
import Derived.Test.YtnnmenmifphadaaGreatDoorR07
import Derived.Test.YtnnmenmifphadaaGreatDoorR08
import Derived.Test.YtnnmenmifphadaaGreatDoorR34
import Derived.Test.YtnnmenmifphadaaGreatDoorR44
import Derived.Test.YtnnmenmifphadaaGreatDoorR46
import Derived.Test.YtnnmenmifphadaaGreatDoorR47
set_option linter.unusedSimpArgs false
set_option linter.unusedVariables false
set_option maxRecDepth 100000
set_option maxHeartbeats 40000000
namespace Go.Proofs.YtnnmenmifphadaaGreatDoor
open Go.ChangeShapes Go.WideShapes Go.ChangeAt Go.RowKit Go.Deep
structure PkV where
 kd : Int
 th : Int
 ch : Int
def pkc (p : PkV) : List Value := [.int .i64 (p).kd, .int .i64 (p).th, .int .i64 (p).ch]
def PkV.ok (p : PkV) : Prop := (inI p.kd ∧ inI p.th) ∧ inI p.ch
def AS.okA (a : AS) : Prop := (actP a).new.okW ∧ inI a.l
theorem inI_of {z : Int} (h : (Lit.int .i64 z).wf = true) : inI z := by
 simp [Lit.wf, IntKind.min, IntKind.max, IntKind.signed, IntKind.bits] at h
 exact h
theorem u32_of {z : Int} (h : (Lit.int .u32 z).wf = true) : 0 ≤ z ∧ z ≤ 4294967295 := by
 simp [Lit.wf, IntKind.min, IntKind.max, IntKind.signed, IntKind.bits] at h
 omega
section
variable {H : Type} {enc : TypeId × Value → H} {w : World} {base : Nat} {spare : Nat → Bool} {held : Bool}
theorem okW_of {v r f : Int} (h1 : (Lit.int .i64 v).wf = true) (h2 : (Lit.int .u32 r).wf = true) (h3 : (Lit.int .u32 f).wf = true) : (W3.mk v r f).okW := ⟨inI_of h1, u32_of h2, u32_of h3⟩
theorem rd_words59 {u : Value} {y : DataW H × List MemPlace} {fuel : Nat} (hf : DataW.trod enc Tryz.prog w base spare held fuel 22 [u] = some y) :
  ∃ (A : Option Addr) (cap : Nat) (l : List W3), u = .slice A l.length cap ∧ (∀ x ∈ l, x.okW) ∧ Rd w w.heap.size 3 A l.length (l.flatMap w3c) := by
 obtain ⟨A, n, cap, xs, rfl, -, hm, hr, hx⟩ := rd_cells_c Tryz.underlying22 (C := 3) kR dM hf
 obtain ⟨l, rfl, hok, rfl⟩ := told_good 3 w3c (fun _ => rfl) W3.okW n xs hr.1 (fun i hi => by
  obtain ⟨m, cs, y, hl, hj, ht⟩ := hx i hi
  obtain ⟨m', hf⟩ := fields_of Tryz.underlying66 kR hl ht
  obtain ⟨u0, y0, e0, t0⟩ := hf 0 _ rfl
  obtain ⟨u1, y1, e1, t1⟩ := hf 1 _ rfl
  obtain ⟨u2, y2, e2, t2⟩ := hf 2 _ rfl
  obtain ⟨z0, rfl, w0⟩ := int_of Tryz.underlying2 t0
  obtain ⟨z1, rfl, w1⟩ := int_of Tryz.underlying64 t1
  obtain ⟨z2, rfl, w2⟩ := int_of Tryz.underlying64 t2
  exact ⟨⟨z0, z1, z2⟩, okW_of w0 w1 w2, fun j hjl => by
   rw [hj j hjl]
   match j, hjl with
   | 0, _ => exact e0
   | 1, _ => exact e1
   | 2, _ => exact e2⟩)
 exact ⟨A, cap, l, rfl, hok, hr⟩
theorem rd_picks59 {u : Value} {y : DataW H × List MemPlace} {fuel : Nat} (hf : DataW.trod enc Tryz.prog w base spare held fuel 54 [u] = some y) :
  ∃ (A : Option Addr) (cap : Nat) (l : List PkV), u = .slice A l.length cap ∧ (∀ x ∈ l, x.ok) ∧ Rd w w.heap.size 3 A l.length (l.flatMap pkc) := by
 obtain ⟨A, n, cap, xs, rfl, -, hm, hr, hx⟩ := rd_cells_c Tryz.underlying54 (C := 3) kR dM hf
 obtain ⟨l, rfl, hok, rfl⟩ := told_good 3 pkc (fun _ => rfl) PkV.ok n xs hr.1 (fun i hi => by
  obtain ⟨m, cs, y, hl, hj, ht⟩ := hx i hi
  obtain ⟨m', hf⟩ := fields_of Tryz.underlying57 kR hl ht
  obtain ⟨u0, y0, e0, t0⟩ := hf 0 _ rfl
  obtain ⟨u1, y1, e1, t1⟩ := hf 1 _ rfl
  obtain ⟨u2, y2, e2, t2⟩ := hf 2 _ rfl
  obtain ⟨z0, rfl, w0⟩ := int_of Tryz.underlying3 t0
  obtain ⟨z1, rfl, w1⟩ := int_of Tryz.underlying3 t1
  obtain ⟨z2, rfl, w2⟩ := int_of Tryz.underlying3 t2
  exact ⟨⟨z0, z1, z2⟩, ⟨⟨inI_of w0, inI_of w1⟩, inI_of w2⟩, fun j hjl => by
   rw [hj j hjl]
   match j, hjl with
   | 0, _ => exact e0
   | 1, _ => exact e1
   | 2, _ => exact e2⟩)
 exact ⟨A, cap, l, rfl, hok, hr⟩
theorem rd_act59 {m : Nat} {cs : List Value} {y : DataW H × List MemPlace} (hl : cs.length = 8) (hf : DataW.trod enc Tryz.prog w base spare held m 68 cs = some y) : ∃ a : AS, a.okA ∧ cs = actc a := by
 match cs, hl with
 | [c0, c1, c2, c3, c4, c5, c6, c7], _ =>
  have c0' : Tryz.prog.cellsOf 3 = 1 := by kernel_rfl
  have c1' : Tryz.prog.cellsOf 63 = 1 := by kernel_rfl
  have c2' : Tryz.prog.cellsOf 66 = 3 := by kernel_rfl
  obtain ⟨ys, n', -, -, -, hyl, hf'⟩ := DataW.trod_struct Tryz.underlying68 hf
  match ys, hyl with
  | [y0, y1, y2, y3], _ =>
  have k0 : DataW.trod enc Tryz.prog w base spare held n' 3 [c0] = some y0 := by simpa [c0'] using hf' 0 ⟨"Op", 3, 0, false, "", "", 0⟩ rfl
  have k1 : DataW.trod enc Tryz.prog w base spare held n' 63 [c1] = some y1 := by simpa [c1'] using hf' 1 ⟨"At", 63, 1, false, "", "", 8⟩ rfl
  have k2 : DataW.trod enc Tryz.prog w base spare held n' 66 [c2, c3, c4] = some y2 := by simpa [c2'] using hf' 2 ⟨"Old", 66, 2, false, "", "", 16⟩ rfl
  have k3 : DataW.trod enc Tryz.prog w base spare held n' 66 [c5, c6, c7] = some y3 := by simpa [c2'] using hf' 3 ⟨"New", 66, 5, false, "", "", 32⟩ rfl
  obtain ⟨z0, rfl, w0⟩ := int_of Tryz.underlying3 k0
  obtain ⟨z1, rfl, w1⟩ := int_of Tryz.underlying63 k1
  obtain ⟨m2, g2⟩ := fields_of (cs := [c2, c3, c4]) Tryz.underlying66 kR rfl k2
  obtain ⟨m3, g3⟩ := fields_of (cs := [c5, c6, c7]) Tryz.underlying66 kR rfl k3
  obtain ⟨u0, y0, e0, t0⟩ := g2 0 _ rfl
  obtain ⟨u1, y1, e1, t1⟩ := g2 1 _ rfl
  obtain ⟨u2, y2, e2, t2⟩ := g2 2 _ rfl
  obtain ⟨u3, y3, e3, t3⟩ := g3 0 _ rfl
  obtain ⟨u4, y4, e4, t4⟩ := g3 1 _ rfl
  obtain ⟨u5, y5, e5, t5⟩ := g3 2 _ rfl
  injection e0 with e0; subst e0
  injection e1 with e1; subst e1
  injection e2 with e2; subst e2
  injection e3 with e3; subst e3
  injection e4 with e4; subst e4
  injection e5 with e5; subst e5
  obtain ⟨z2, rfl, w2⟩ := int_of Tryz.underlying2 t0
  obtain ⟨z3, rfl, w3⟩ := int_of Tryz.underlying64 t1
  obtain ⟨z4, rfl, w4⟩ := int_of Tryz.underlying64 t2
  obtain ⟨z5, rfl, w5⟩ := int_of Tryz.underlying2 t3
  obtain ⟨z6, rfl, w6⟩ := int_of Tryz.underlying64 t4
  obtain ⟨z7, rfl, w7⟩ := int_of Tryz.underlying64 t5
  exact ⟨⟨z0, z1, z2, z3, z4, z5, z6, z7⟩, ⟨okW_of w5 w6 w7, inI_of w1⟩, rfl⟩
theorem rd_row59 {u : Value} {y : DataW H × List MemPlace} {fuel : Nat} (hf : DataW.trod enc Tryz.prog w base spare held fuel 23 [u] = some y) :
  ∃ (A : Option Addr) (cap : Nat) (l : List AS), u = .slice A l.length cap ∧ (∀ x ∈ l, x.okA) ∧ Rd w w.heap.size 8 A l.length (l.flatMap actc) := by
 obtain ⟨A, n, cap, xs, rfl, -, hm, hr, hx⟩ := rd_cells_c Tryz.underlying23 (C := 8) kR dM hf
 obtain ⟨l, rfl, hok, rfl⟩ := told_good 8 actc (fun _ => rfl) AS.okA n xs hr.1 (fun i hi => by
  obtain ⟨m, cs, y, hl, hj, ht⟩ := hx i hi
  obtain ⟨a, ha, rfl⟩ := rd_act59 hl ht
  exact ⟨a, ha, hj⟩)
 exact ⟨A, cap, l, rfl, hok, hr⟩
theorem rd_rows59 {v : Value} {d : DataW H} {p : List MemPlace} {r : Reach} {b0 : Nat} (hv : Value.okWide Tryz.prog w r b0 25 v) (h : DataW.Trod enc Tryz.prog w base spare held 25 v d p) :
  ∃ x : ActsV, v = .agg #[x.sl 0, x.sl 1, x.sl 2] ∧ x.R w w.heap.size ∧ ∀ k, ∀ a ∈ x.l k, a.okA := by
 have ht := Tryz.underlying25
 have hc3 : Tryz.prog.cellsOf 25 = 3 := by kernel_rfl
 simp only [Value.okWide, ht] at hv
 obtain ⟨cs, rfl, hsz, _⟩ := hv
 rw [hc3] at hsz
 obtain ⟨cs⟩ := cs
 match cs, hsz with
 | [c0, c1, c2], _ =>
  obtain ⟨fuel, hf⟩ := h
  obtain ⟨y0, y1, y2, m, _, hy0, hy1, hy2⟩ := trod_array3 ht kR (c0 := c0) (c1 := c1) (c2 := c2) hf
  obtain ⟨A0, p0, l0, rfl, o0, r0⟩ := rd_row59 hy0
  obtain ⟨A1, p1, l1, rfl, o1, r1⟩ := rd_row59 hy1
  obtain ⟨A2, p2, l2, rfl, o2, r2⟩ := rd_row59 hy2
  refine ⟨⟨fun k => if k = 0 then A0 else if k = 1 then A1 else A2, fun k => if k = 0 then p0 else if k = 1 then p1 else p2, fun k => if k = 0 then l0 else if k = 1 then l1 else l2⟩, rfl, fun k hk => ?_, fun k => ?_⟩
  ·have h3 : k = 0 ∨ k = 1 ∨ k = 2 := by omega
   rcases h3 with rfl | rfl | rfl
   ·exact r0
   ·exact r1
   ·exact r2
  ·show ∀ a ∈ (if k = 0 then l0 else if k = 1 then l1 else l2), a.okA
   split
   ·exact o0
   ·split
    ·exact o1
    ·exact o2
end
theorem laidMet_drop {P : Program} {x : String × DataW Unit} {r : List (String × DataW Unit)} {w : World} (h : laidMet P (x :: r) w) : laidMet P r w := by
 obtain ⟨ps, h1, h2, h3⟩ := h
 obtain ⟨n, d⟩ := x
 obtain ⟨g, t, cs, fuel, p, q, _, _, _, _, hq, rfl⟩ := h1
 exact ⟨q, hq, (List.nodup_append.1 h2).2.1, fun b off hb => h3 b off (List.mem_append_right _ hb)⟩
end Go.Proofs.YtnnmenmifphadaaGreatDoor
namespace Go.Proofs.YtnnmenmifphadaaGreatDoor
open Go.RowKit Go.Maps Go.Sort
theorem out_far (A : Option Addr) (n cap : Nat) (x : ActsV) (pA : Option Addr) (m pc : Nat) (w : World) (ht : Tab w) (hg : 0 < w.heap.size) (hb : (∃ k, k < 3 ∧ 4 < (x.l k).length) ∨ 7 < x.tot 3 ∨ n = 0 ∨ 12 < n) :
  Calls Tryz.prog 4 #[.slice A n cap, .agg #[x.sl 0, x.sl 1, x.sl 2], .slice pA m pc] w (Ret (.bool true) w) := by
 have hno := fun W => world_no A n cap x W hb
 have Hno := hide hno
 have HTab := hide ht
 clear hno hb ht
 go_enter Tryz.func4, Tryz.ntmps4
 go_wp2_with (first
  | (go_at_call 7; refine (Hno.out _).mono ?_; rintro e w1 ⟨rfl, hb1⟩; have hs1 := hb1.size; (try simp at hs1))
  | (go_at_call 8; refine (awake59_any _ (HTab.out.below (N := w.heap.size) (by first | with_reducible assumption | exact ab0) hg) (by first | omega | (simp; done) | (simp; omega))).mono ?_; rintro e w9 ⟨rfl, hb9⟩))
 go_ret
 exact ⟨rfl, ab0⟩
theorem out_long (A : Option Addr) (n cap : Nat) (ws : List W3) (x : ActsV) (pA : Option Addr) (m pc : Nat) (w : World) (ht : Tab w) (hg : 0 < w.heap.size) (hw : ws.length = n) (hr : Rd w w.heap.size 3 A n (ws.flatMap w3c)) (hx : x.R w w.heap.size) (h4 : ∀ k, k < 3 → (x.l k).length ≤ 4) (h7 : x.tot 3 ≤ 7) (hn1 : 1 ≤ n) (hn2 : n ≤ 12) (hm : 12 < m) :
  Calls Tryz.prog 4 #[.slice A n cap, .agg #[x.sl 0, x.sl 1, x.sl 2], .slice pA m pc] w (Ret (.bool true) w) := by
 have hok := fun W (hW : Below w.heap.size w W) => world_ok A n cap ws x W hw ((hr.below hW).more hW.size) (fun k hk => ((hx k hk).below hW).more hW.size) h4 h7 hn1 hn2
 have Hok := hide hok
 have HTab := hide ht
 have g1 : (m : Int) > 12 := by omega
 have g2 : (12 : Int) < (m : Int) := by omega
 clear hok hr hx h4 h7 hn1 hn2 ht hw hm
 go_enter Tryz.func4, Tryz.ntmps4
 go_wp2_with (first
  | (go_at_call 7; refine (Hok.out _ (by first | with_reducible assumption | exact ab0)).mono ?_; rintro e w1 ⟨V, rfl, hS, hR, hb1⟩; have hs1 := hb1.size; (try simp at hs1); clear hS hR)
  | (go_at_call 8; refine (awake59_any _ (HTab.out.below (N := w.heap.size) (by first | with_reducible assumption | exact ab0) hg) (by first | omega | (simp; done) | (simp; omega))).mono ?_; rintro e w9 ⟨rfl, hb9⟩))
 go_ret
 exact ⟨rfl, ab0⟩
def strE (v : Value) : Option (DataW Unit × List MemPlace) := match v with
 | .string b => some (.lit (.string b.data.toList), [])
 | _ => none
def Met (L : Nat) (D : DataW Unit) : Prop := ∀ k : List UInt8, Maps.has D (.string k) = true → ∃ (n : Nat) (P : PW), P.In L 3 n ∧ P.keyP = k ∧ D.atKey (.string k) (.lit (.string [])) = .lit (.string P.outP)
def pk9 : PkV := ⟨9, 0, 0⟩
theorem pkc_ones59 (l : List PkV) : ∀ u ∈ l.flatMap pkc, u.oneCell' = true := by
 intro u hu
 obtain ⟨p, _, hp⟩ := List.mem_flatMap.1 hu
 simp only [pkc, List.mem_cons, List.not_mem_nil, or_false] at hp
 rcases hp with rfl | rfl | rfl <;> rfl
theorem own_rd59 {w : World} {base size n cap : Nat} {e : TypeId} {A : Option Addr} {xs : List Value} (h : w.ownsRow base e size (.slice A n cap) n xs) (hn : 0 < n) : ∃ g, A = some ⟨g, 0, none⟩ ∧ base ≤ g ∧ Rd w w.heap.size size (some ⟨g, 0, none⟩) n xs := by
 obtain ⟨g, c, e', _, hg, hr⟩ := own_some h hn
 injection e' with e1 e2 e3
 exact ⟨g, e1, hg, hr⟩
structure XT (B0 L n C : Nat) (W : World) (V : WorldV) (P : PW) : Prop where
 h : Held B0 L n W V P
 x : BoxC C (wol V) W
 off : V.off C
 lt : C < W.heap.size
 b : B0 ≤ C
theorem XS.xt {B0 L n C : Nat} {W : World} {V : WorldV} {P : PW} (h : XS B0 L n C W V P) : XT B0 L n C W V P := ⟨h.h, h.x, h.off, h.lt, h.b⟩
theorem XT.below {B0 L n C : Nat} {W W' : World} {V : WorldV} {P : PW} (h : XT B0 L n C W V P) (hb : Below W.heap.size W W') : XT B0 L n C W' V P := ⟨h.h.below hb, h.x.below hb, h.off, Nat.lt_of_lt_of_le h.lt hb.size, h.b⟩
theorem XT.fill {B0 L n C : Nat} {W : World} {V V0 : WorldV} {P : PW} (h : Held B0 L n W V P) (hoff : V.off C) (hx : BoxC C (wol V0) W) (hlt : C < W.heap.size) (hC : B0 ≤ C) : XT B0 L n C (setFrom W C 0 (wol V)) V P :=
 ⟨h.fill hoff (U := wol V) hx.some hC, hx.fill rfl, hoff, by rw [setFrom_size]; exact hlt, hC⟩
theorem BoxC.grownB {C b : Nat} {cs : List Value} {W W' : World} (h : BoxC C cs W) (hg : W.grownBy W' (Option.some b)) (hne : C ≠ b) : BoxC C cs W' :=
 ⟨fun j u hj => hg.cell (h.1 j u hj) (by intro e; injection e with e; exact hne e), fun o => (World.frozen?_of_block (a := ⟨C, o, none⟩) (hg.block C h.2.2 (by intro e; injection e with e; exact hne e))).trans (h.2.1 o), Nat.lt_of_lt_of_le h.2.2 hg.size⟩
theorem Held.grownB {B0 L n b : Nat} {W W' : World} {V : WorldV} {P : PW} (h : Held B0 L n W V P) (hb : V.off b) (hB : B0 ≤ b) (hs : StrM b W) (hg : W.grownBy W' (some b)) : Held B0 L n W' V P := by
 have hB0 : Below B0 W W' := below_of_grownBy hg hB h.b
 have hL := h.l
 have hln := h.lens
 exact ⟨h.r.grown oM hb.1.2.2.2 hs hg, h.s, h.i, fun r hr => (h.rows r hr).below hB0, h.t.below hB0 h.g, Nat.le_trans h.b hg.size, h.g, h.l, h.al⟩
theorem grownBy_setFrom (B : Nat) : ∀ (l : List Value) (k : Nat) (W : World), W.grownBy (setFrom W B k l) (some B)
 | [], _, W => World.grownBy.refl W _
 | x :: l, k, W => World.grownBy.trans (b := W.setCell ⟨B, k, none⟩ x) ⟨rfl, rfl, rfl, (KeepsWalks.setCell W _ x).size, fun j _ hj => Below.heap_setCell _ _ _ j (fun e => hj (by rw [e]))⟩ (grownBy_setFrom B l (k + 1) _)
theorem Rd.blk {W W' : World} {B B' size g o n : Nat} {xs : List Value} (h : Rd W B size (some ⟨g, o, none⟩) n xs) (hb : W'.heap[g]? = W.heap[g]?) (hB : g < B') : Rd W' B' size (some ⟨g, o, none⟩) n xs := by
 refine ⟨h.1, fun hn => ?_⟩
 obtain ⟨b, off, e, _, hc⟩ := h.2 hn
 injection e with e
 injection e with e1 e2 e3
 subst e1 e2
 exact ⟨g, o, rfl, hB, fun j u hu => (World.cell?_of_block (a := ⟨g, o + j, none⟩) hb).trans (hc j u hu)⟩
theorem Met.put {L n : Nat} {D : DataW Unit} {P : PW} (h : Met L D) (hD : Maps.IsMap D) (hP : P.In L 3 n) : Met L (D.put (.string P.keyP) (.lit (.string P.outP))) := by
 intro k hk
 by_cases e : k = P.keyP
 ·subst e
  exact ⟨n, P, hP, rfl, Maps.atKey_put_same hD (k := .string P.keyP) (by trivial) _ _⟩
 ·have hne : (Lit.string k) ≠ .string P.keyP := fun h => e (by injection h)
  rw [Maps.has_put_other hne] at hk
  obtain ⟨n', P', h1, h2, h3⟩ := h k hk
  exact ⟨n', P', h1, h2, (Maps.atKey_put_other hne _ _).trans h3⟩
theorem strE_str {v : Value} {b : List UInt8} {ps : List MemPlace} (h : strE v = some (.lit (.string b), ps)) : v = .string ⟨b.toArray⟩ := by
 cases v <;> simp only [strE, reduceCtorEq, Option.some.injEq, Prod.mk.injEq, DataW.lit.injEq, Lit.string.injEq] at h
 obtain ⟨rfl, _⟩ := h
 rfl
theorem strE_any {v : Value} {D : DataW Unit} {ps : List MemPlace} (h : strE v = some (D, ps)) : ∃ b, v = .string b := by
 cases v <;> simp only [strE, reduceCtorEq] at h
 exact ⟨_, rfl⟩
theorem zero_string (w : World) : (zeroValue 9).run Tryz.prog w = .ok (.string ⟨#[]⟩) w := by kernel_rfl
theorem info_pick : (Tryz.prog.info? 57).map (fun i => (i.zero, i.size, i.bytes)) = some (some (.agg #[.int .i64 0, .int .i64 0, .int .i64 0]), 3, 24) := by kernel_rfl
theorem out_main (A : Option Addr) (n cap : Nat) (ws : List W3) (x : ActsV) (pA : Option Addr) (m pc : Nat) (ps : List PkV) (w : World) (ht : Tab w) (hg : 0 < w.heap.size) (hw : ws.length = n) (hr : Rd w w.heap.size 3 A n (ws.flatMap w3c)) (hws : ∀ y ∈ ws, y.okW) (hx : x.R w w.heap.size) (hxo : ∀ k, ∀ a ∈ x.l k, (actP a).new.okW ∧ inI a.l) (h4 : ∀ k, k < 3 → (x.l k).length ≤ 4) (h7 : x.tot 3 ≤ 7) (hn1 : 1 ≤ n) (hn2 : n ≤ 12) (hm : m ≤ 12) (hp : ps.length = m) (hpo : ∀ p ∈ ps, p.ok) (hpr : Rd w w.heap.size 3 pA m (ps.flatMap pkc)) :
  Calls Tryz.prog 4 #[.slice A n cap, .agg #[x.sl 0, x.sl 1, x.sl 2], .slice pA m pc] w (Ret (.bool true) w) := by
 obtain ⟨i0, hi, iz0, iz1, iz2⟩ := info_parts info_pick
 have hok := fun W (hW : Below w.heap.size w W) => world_held A n cap ws x w W hW hg ht hw hr hws hx hxo h4 h7 hn1 hn2
 have Hok := hide hok
 have HTab := hide ht
 have Hpr := hide hpr
 have Hpo := hide hpo
 have g1 : ¬ (m : Int) > 12 := by omega
 have g2 : ¬ (12 : Int) < (m : Int) := by omega
 have hm1 : m ≤ 12 := hm
 have Hp := hide hp
 have Hi := hide hi
 clear hok hr hws hx hxo h4 h7 hn1 hn2 ht hw hm hpo hpr hp hi
 have hmm := @run_makeMap Tryz.prog
 go_enter Tryz.func4, Tryz.ntmps4
 go_upto_region 2 with (first
  | (go_at_call 7; refine (Hok.out _ (by first | with_reducible assumption | exact ab0)).mono ?_; rintro e w1 ⟨V0, rfl, hH0, hb1⟩; have hs1 := hb1.size; (try simp at hs1); have HH0 := hide hH0; clear hH0))
 obtain ⟨w2, hw2⟩ : ∃ W : World, W = w1.alloc (.cells #[.slice V0.M.mem.pA V0.M.mem.hs.length V0.M.mem.pc, .slice V0.M.mem.vA V0.M.mem.vs.length V0.M.mem.vc, .slice V0.M.ln.fA V0.M.ln.first.length V0.M.ln.fc, .slice V0.M.ln.lA V0.M.ln.logs.length V0.M.ln.lc, .map V0.M.ln.asks, .slice V0.M.sA V0.M.steps.length V0.M.sc, .int .i64 V0.M.crashes, .slice V0.tA V0.ts.length V0.tc, .slice V0.sA V0.ss.length V0.sc] 40) := ⟨_, rfl⟩
 have hB12 : Below w1.heap.size w1 w2 := by rw [hw2]; exact Below.alloc (Below.refl _ _) (Nat.le_refl _) _
 have hs2 : w2.heap.size = w1.heap.size + 1 := by rw [hw2]; simp
 have hXS : XS w.heap.size n 0 w1.heap.size w2 V0 (PW0 ws x) := by
  refine ⟨HH0.out.1.below hB12, HH0.out.2, by rw [hw2]; exact BoxC.made w1 #[.slice V0.M.mem.pA V0.M.mem.hs.length V0.M.mem.pc, .slice V0.M.mem.vA V0.M.mem.vs.length V0.M.mem.vc, .slice V0.M.ln.fA V0.M.ln.first.length V0.M.ln.fc, .slice V0.M.ln.lA V0.M.ln.logs.length V0.M.ln.lc, .map V0.M.ln.asks, .slice V0.M.sA V0.M.steps.length V0.M.sc, .int .i64 V0.M.crashes, .slice V0.tA V0.ts.length V0.tc, .slice V0.sA V0.ss.length V0.sc] 40, WorldV.off_new HH0.out.1.r (Nat.le_refl _), by omega, HH0.out.1.b⟩
 have HXS := hide hXS
 have hB2 : Below w.heap.size w w2 := (ab0 : Below w.heap.size w w1).trans (hB12.mono oM)
 have HB2 := hide hB2
 rw [← hw2]
 clear hw2 hB12 hXS hB2 HH0 hb1
 obtain ⟨C, hC⟩ : ∃ C, C = w1.heap.size := ⟨_, rfl⟩
 rw [← hC] at HXS hs2 ⊢
 have hCw : w.heap.size ≤ C := by omega
 have hC1 : C < w2.heap.size := by omega
 have hC2 : w2.heap.size ≤ C + 1 := by omega
 clear hC hs1 hs2
 go_upto_region 5 with fail
 obtain ⟨w3, hw3⟩ : ∃ W : World, W = w2.alloc (.map #[] 0) := ⟨_, rfl⟩
 have hB23 : Below w2.heap.size w2 w3 := by rw [hw3]; exact Below.alloc (Below.refl _ _) (Nat.le_refl _) _
 have hOM : w3.ownsMap Tryz.prog 9 strE w2.heap.size 0 (.map []) := by rw [hw3]; exact World.ownsMap_made (H := Unit) w2 Tryz.prog 9 strE
 have hs3 : w3.heap.size = w2.heap.size + 1 := by rw [hw3]; simp
 have HXS3 := hide (HXS.out.below hB23)
 have HB3 := hide (HB2.out.trans (hB23.mono HB2.out.size))
 have HOM := hide hOM
 obtain ⟨bm, hbm⟩ : ∃ b, b = w2.heap.size := ⟨_, rfl⟩
 rw [← hbm] at HOM hs3 hC1
 rw [← hw3, ← hbm]
 have hz3 : bm < w3.heap.size := by omega
 have hzC3 : C < bm := by omega
 have hwb : w.heap.size ≤ bm := by omega
 have HVb : Hid (V0.off bm) := hide (by rw [hbm]; exact WorldV.off_new HXS.out.h.r (Nat.le_refl _))
 clear hw3 hB23 hOM HXS HB2 hbm hs3 hmm hC1 hC2
 have hpr3 : Rd w3 w.heap.size 3 pA m (ps.flatMap pkc) := Hpr.out.below HB3.out
 have hsw : w.heap.size ≤ w3.heap.size := by omega
 have hi := Hi.out
 go_wp2_with (at_builtin; (refine wpList_append_rd rfl _ _ 54 rfl w3.heap.size 57 i0 _ 3 24 Tryz.underlying54 hi iz0 iz1 iz2 rfl dM (.slice (some ⟨w3.heap.size, 0, none⟩) 1 1) 1 (pkc pk9) rfl (World.ownsRow_lit w3 #[.int .i64 9, .int .i64 0, .int .i64 0] 1 (Nat.le_refl _) (by unfold maxLen; omega) rfl) pA m pc (ps.flatMap pkc) rfl w.heap.size (hpr3.below (Below.alloc (Below.refl _ _) hsw _)) (pkc_ones59 _) ?o1 ?o2 (by first | omega | (simp; done) | (simp; omega)) w3.heap.size w3 ab0 (Nat.le_refl _) ?_))
 case o1 => unfold maxLen; omega
 case o2 => omega
 intro v' w4 hown4 hb4 hs4
 obtain ⟨A4, c4, rfl, hc4, hA4⟩ := own_slice hown4
 have hl4 : (pkc pk9 ++ ps.flatMap pkc) = (pk9 :: ps).flatMap pkc := rfl
 rw [hl4] at hown4
 have Hown4 := hide hown4
 have Hb4 := hide hb4
 clear hown4 hb4 hl4 hi hpr3 hc4 hA4
 go_wp2_with fail
 have hB34 : Below w3.heap.size w3 w4 := Hb4.out
 have HXT4 := hide (HXS3.out.xt.below hB34)
 have HB4 := hide (HB3.out.trans (hB34.mono oM))
 have HOM4 : Hid (w4.ownsMap Tryz.prog 9 strE bm 0 (.map [])) := hide (HOM.out.kept (grown_of_below hB34 none) sM)
 have HM0 : Hid (Met n (.map [])) := hide (fun k h => absurd h (by simp [Maps.has]))
 obtain ⟨g4, eA4, hg4, hrd4'⟩ := own_rd59 Hown4.out oM
 subst eA4
 have hrd4 := hide hrd4'
 have hgb : bm < g4 := by omega
 clear hrd4' hg4
 have hz4 : bm < w4.heap.size := by omega
 clear hB34 HXS3 HB3 HOM Hb4 Hown4
 go_loopw [38] (fun i wr => ∃ (k : Nat) (V : WorldV) (P : PW) (D : DataW Unit), i = .int .i64 k ∧ k ≤ 1 + m ∧ Hid (XT w.heap.size n k C wr V P ∧ V.off bm) ∧ Hid (Below w.heap.size w wr) ∧ Hid (wr.ownsMap Tryz.prog 9 strE bm (Maps.size D) D ∧ Maps.size D ≤ k) ∧ Hid (Met n D) ∧ Hid (Rd wr wr.heap.size 3 (some ⟨g4, 0, none⟩) (1 + m) ((pk9 :: ps).flatMap pkc))) (fun i _ => 1 + m - (intOf i).toNat)
 case atStart => exact ⟨0, V0, PW0 ws x, .map [], rfl, by omega, hide ⟨HXT4.out, HVb.out⟩, HB4, hide ⟨HOM4.out, by simp [Maps.size]⟩, HM0, hrd4⟩
 case round =>
  obtain ⟨k, V, P, D, rfl, hk, HXV, HB, HO, HM, HR⟩ := hrel
  have HX := hide HXV.out.1
  have HVb := hide HXV.out.2
  clear HXV
  by_cases hlt : (k : Int) < 1 + (m : Int)
  ·have hk1 : k < 1 + m := by omega
   obtain ⟨p, hpk⟩ : ∃ p, (pk9 :: ps)[k]? = some p := ⟨_, List.getElem?_eq_getElem (by have := Hp.out; simp only [List.length_cons]; omega)⟩
   obtain ⟨bl, off, e, hbl, hcl⟩ := Rd.elem HR.out (fun _ => (rfl : (pkc _).length = 3)) hk1 hpk
   obtain ⟨rfl, rfl⟩ : g4 = bl ∧ 0 = off := by injection e with e; injection e with e1 e2; exact ⟨e1, e2⟩
   clear e
   have t0 : wr.cell? ⟨g4, 0 + k * 3, none⟩ = some (.int .i64 p.kd) := hcl 0 _ rfl
   have t1 : wr.cell? ⟨g4, 0 + k * 3 + 1, none⟩ = some (.int .i64 p.th) := hcl 1 _ rfl
   have t2 : wr.cell? ⟨g4, 0 + k * 3 + 2, none⟩ = some (.int .i64 p.ch) := hcl 2 _ rfl
   rw [Nat.zero_add] at t0 t1 t2
   have hpk2 : p.ok := by
    rcases List.mem_cons.1 (List.mem_of_getElem? hpk) with rfl | h
    ·unfold PkV.ok inI pk9; simp only; omega
    ·exact Hpo.out p h
   have XB := hide HX.out.x
   obtain ⟨c0, c1, c2, c3, c4', c5, c6, c7, c8, cf⟩ := box9 XB.out
   have hCr : C < wr.heap.size := HX.out.lt
   have hzb : g4 < wr.heap.size := hbl
   have hzbm : bm < wr.heap.size := HO.out.1.lt
   have hBr : Below wr.heap.size wr wr := Below.refl _ _
   have hszr := HB.out.size
   have hst := fun (hk2 : p.kd ≠ 2) W (hW : Below wr.heap.size wr W) => held_pick (HX.out.h.below hW) oM p.kd p.th p.ch hk2 (WalkArith.wf_i64 hpk2.2)
   have Hst := hide hst
   clear hst hpk2 hcl hbl hpk hlt
   go_upto_if 45 with fail
   go_cut [13] (fun s13 wx => ∃ (V2 : WorldV) (P2 : PW) (ok : Bool), s13 = .bool ok ∧ Hid (Held w.heap.size n (k + 1) wx V2 P2) ∧ Hid (BoxC (wr.heap.size + 1) (wol V2) wx) ∧ Hid (V2.off C ∧ V2.off bm ∧ V2.off (wr.heap.size + 1)) ∧ Hid ((ok = true → P2.keyP ≠ P.keyP) ∧ (ok = false → P2 = P)) ∧ Below wr.heap.size wr wx)
   case first =>
    by_cases hk2 : p.kd = 2
    ·have g3 : (p.kd != 2) = false := by simp [hk2]
     go_wp2_with fail
     obtain ⟨w5, hw5⟩ : ∃ W : World, W = (wr.alloc (.cells #[.int .i64 p.kd, .int .i64 p.th, .int .i64 p.ch] 57)).alloc (.cells #[.slice V.M.mem.pA V.M.mem.hs.length V.M.mem.pc, .slice V.M.mem.vA V.M.mem.vs.length V.M.mem.vc, .slice V.M.ln.fA V.M.ln.first.length V.M.ln.fc, .slice V.M.ln.lA V.M.ln.logs.length V.M.ln.lc, .map V.M.ln.asks, .slice V.M.sA V.M.steps.length V.M.sc, .int .i64 V.M.crashes, .slice V.tA V.ts.length V.tc, .slice V.sA V.ss.length V.sc] 40) := ⟨_, rfl⟩
     have hB5 : Below wr.heap.size wr w5 := by rw [hw5]; exact ab0
     have xd : BoxC (wr.heap.size + 1) (wol V) w5 := by
      rw [hw5]
      have q := BoxC.made (wr.alloc (.cells #[.int .i64 p.kd, .int .i64 p.th, .int .i64 p.ch] 57)) #[.slice V.M.mem.pA V.M.mem.hs.length V.M.mem.pc, .slice V.M.mem.vA V.M.mem.vs.length V.M.mem.vc, .slice V.M.ln.fA V.M.ln.first.length V.M.ln.fc, .slice V.M.ln.lA V.M.ln.logs.length V.M.ln.lc, .map V.M.ln.asks, .slice V.M.sA V.M.steps.length V.M.sc, .int .i64 V.M.crashes, .slice V.tA V.ts.length V.tc, .slice V.sA V.ss.length V.sc] 40
      simpa [wol] using q
     have HH := hide (HX.out.h.below hB5).up
     have HOff := hide (show V.off C ∧ V.off bm ∧ V.off (wr.heap.size + 1) from ⟨HX.out.off, HVb.out, WorldV.off_new HX.out.h.r oM⟩)
     have HMV : Hid ((false = true → P.keyP ≠ P.keyP) ∧ (false = false → P = P)) := hide ⟨(fun e => by cases e), fun _ => rfl⟩
     go_meet
     rw [← hw5]
     exact ⟨V, P, false, rfl, HH, hide xd, HOff, HMV, hB5⟩
    ·have g3 : (p.kd != 2) = true := by simpa using hk2
     go_wp2_with (first
      | (go_at_call 13; refine (Hst.out hk2 _ (by first | with_reducible assumption | exact ab0)).mono ?_; rintro e w4' ⟨V2, P2, ok, rfl, hH2, hmv, hst2, hoff2, hb5⟩; have hs5 := hb5.size; (try simp at hs5); have hb5w : Below wr.heap.size wr w4' := ab0; have HH2 := hide hH2; have Hmv := hide hmv; have Hst2 := hide hst2; have Hoff2 := hide hoff2; have HB5 := hide hb5w; have q0 : BoxC (wr.heap.size + 1) (wol V) w4' := (by have q := (BoxC.made (wr.alloc (.cells #[.int .i64 p.kd, .int .i64 p.th, .int .i64 p.ch] 57)) #[.slice V.M.mem.pA V.M.mem.hs.length V.M.mem.pc, .slice V.M.mem.vA V.M.mem.vs.length V.M.mem.vc, .slice V.M.ln.fA V.M.ln.first.length V.M.ln.fc, .slice V.M.ln.lA V.M.ln.logs.length V.M.ln.lc, .map V.M.ln.asks, .slice V.M.sA V.M.steps.length V.M.sc, .int .i64 V.M.crashes, .slice V.tA V.ts.length V.tc, .slice V.sA V.ss.length V.sc] 40).below (w' := w4') (by simpa using hb5); simpa [wol] using q); have XD := hide q0; clear hH2 hmv hst2 hoff2 hb5w q0; obtain ⟨y0, y1, y2, y3, y4, y5, y6, y7, y8, yf⟩ := box9 XD.out))
     obtain ⟨w5, hw5⟩ : ∃ W : World, W = setFrom w4' (wr.heap.size + 1) 0 (wol V2) := ⟨_, rfl⟩
     have hB5 : Below wr.heap.size wr w5 := by rw [hw5]; exact below_setFrom oM _ _ HB5.out
     have xd : BoxC (wr.heap.size + 1) (wol V2) w5 := by rw [hw5]; exact XD.out.fill rfl
     have hoD : V2.off (wr.heap.size + 1) := Hoff2.out _ sM (WorldV.off_new HX.out.h.r oM)
     have HH : Hid (Held w.heap.size n (k + 1) w5 V2 P2) := hide (by rw [hw5]; exact HH2.out.fill hoD (U := wol V2) XD.out.some oM)
     have HOff := hide (show V2.off C ∧ V2.off bm ∧ V2.off (wr.heap.size + 1) from ⟨Hoff2.out C (by simp; omega) HX.out.off, Hoff2.out bm (by simp; omega) HVb.out, hoD⟩)
     have HMV := hide (show (ok = true → P2.keyP ≠ P.keyP) ∧ (ok = false → P2 = P) from ⟨Hmv.out, Hst2.out⟩)
     simp only [setFrom, wol, Nat.zero_add, Nat.reduceAdd] at hw5
     go_meet
     rw [← hw5]
     exact ⟨V2, P2, ok, rfl, HH, hide xd, HOff, HMV, hB5⟩
   case rest =>
    obtain ⟨w5, hw5⟩ : ∃ W : World, W = wc := ⟨_, rfl⟩
    subst hw5
    obtain ⟨V2, P2, ok, rfl, HH, XD, HOff, HMV, hBc⟩ := hcut
    have hs5 := hBc.size
    have hDw : wr.heap.size + 1 < w5.heap.size := XD.out.2.2
    have HBc := hide hBc
    obtain ⟨Dd, hDd⟩ : ∃ d, d = wr.heap.size + 1 := ⟨_, rfl⟩
    rw [← hDd] at XD HOff hDw ⊢
    have hDr : wr.heap.size < Dd := by omega
    have XC := hide (XB.out.below hBc)
    have Hkey := hide (fun W (hW : Below w5.heap.size w5 W) => held_key (HH.out.below hW) oM)
    have Hout := hide (fun W (hW : Below w5.heap.size w5 W) => held_out (HH.out.below hW) oM)
    have Htext := hide (fun W (hW : Below w5.heap.size w5 W) => held_text (HH.out.below hW) oM)
    have HkeyP := hide (fun W (hW : Below w5.heap.size w5 W) => held_key (HX.out.h.below (hBc.trans (hW.mono hBc.size))) oM)
    have hkl : keyOf Tryz.prog 9 (.string ⟨P2.keyP.toArray⟩) = some (.string P2.keyP) := key_of _ (key_short HH.out.i (by have := HH.out.l; omega) oM oM)
    have Hkl := hide hkl
    clear hkl hDd hBc Hst t0 t1 t2 c0 c1 c2 c3 c4' c5 c6 c7 c8 cf hBr XB
    obtain ⟨y0, y1, y2, y3, y4, y5, y6, y7, y8, yf⟩ := box9 XD.out
    have hB5 : Below w5.heap.size w5 w5 := Below.refl _ _
    try go_upto_region 11 with fail
    go_cut [14, 15] from 52 to 55 (fun s14 s15 wx => s14 = .string ⟨P2.outP.toArray⟩ ∧ s15 = .string ⟨P2.keyP.toArray⟩ ∧ Below w5.heap.size w5 wx)
    case first =>
     go_region_held3 (fun w' => w'.cell? ⟨Dd, 0, none⟩ = some (.slice V2.M.mem.pA V2.M.mem.hs.length V2.M.mem.pc) ∧ w'.cell? ⟨Dd, 1, none⟩ = some (.slice V2.M.mem.vA V2.M.mem.vs.length V2.M.mem.vc) ∧ w'.cell? ⟨Dd, 2, none⟩ = some (.slice V2.M.ln.fA V2.M.ln.first.length V2.M.ln.fc) ∧ w'.cell? ⟨Dd, 3, none⟩ = some (.slice V2.M.ln.lA V2.M.ln.logs.length V2.M.ln.lc) ∧ w'.cell? ⟨Dd, 4, none⟩ = some (.map V2.M.ln.asks) ∧ w'.cell? ⟨Dd, 5, none⟩ = some (.slice V2.M.sA V2.M.steps.length V2.M.sc) ∧ w'.cell? ⟨Dd, 6, none⟩ = some (.int .i64 V2.M.crashes) ∧ w'.cell? ⟨Dd, 7, none⟩ = some (.slice V2.tA V2.ts.length V2.tc) ∧ w'.cell? ⟨Dd, 8, none⟩ = some (.slice V2.sA V2.ss.length V2.sc)) (first | exact ⟨y0, y1, y2, y3, y4, y5, y6, y7, y8⟩ | exact ⟨by go_simp, by go_simp, by go_simp, by go_simp, by go_simp, by go_simp, by go_simp, by go_simp, by go_simp⟩ | go_keep)
      (first
       | (go_at_call 14; refine (Hout.out _ (by first | with_reducible assumption | exact ab0)).mono ?_; rintro e w6 ⟨rfl, hb6'⟩; have hb6 : Below _ _ w6 := (by first | with_reducible exact noDrew hb6' | exact hb6'); clear hb6'; obtain ⟨hcc6, hff6, hs6⟩ := bC hb6; (try simp at hs6); have hz6 : Dd < w6.heap.size := oM)
       | (go_at_call 15; refine (Hkey.out _ (by first | with_reducible assumption | exact ab0)).mono ?_; rintro e w7 ⟨rfl, hb7'⟩; have hb7 : Below _ _ w7 := (by first | with_reducible exact noDrew hb7' | exact hb7'); clear hb7'; obtain ⟨hcc7, hff7, hs7⟩ := bC hb7; (try simp at hs7); have hz7 : Dd < w7.heap.size := oM))
     all_goals go_wp2_with fail
     all_goals go_meet
     all_goals exact ⟨rfl, rfl, ab0⟩
    case rest =>
     obtain ⟨w6, hw6⟩ : ∃ W : World, W = wc := ⟨_, rfl⟩
     subst hw6
     obtain ⟨rfl, rfl, hb6⟩ := hcut
     have hs6 := hb6.size
     have hDw6 : Dd < w6.heap.size := by omega
     have hCw6 : C < w6.heap.size := by omega
     have hXD6 := XD.out.below hb6
     have hXC6 := XC.out.below hb6
     have hF : ∀ W, Below w6.heap.size w6 W → Below w5.heap.size w5 W := fun W hW => hb6.trans (hW.mono hb6.size)
     have HB6 := hide hb6
     have XD6 := hide hXD6
     have XC6 := hide hXC6
     have HF := hide hF
     clear hb6 hXD6 hXC6 hF y0 y1 y2 y3 y4 y5 y6 y7 y8 yf hB5
     obtain ⟨y0, y1, y2, y3, y4, y5, y6, y7, y8, yf⟩ := box9 XD6.out
     obtain ⟨c0, c1, c2, c3, c4', c5, c6, c7, c8, cf⟩ := box9 XC6.out
     have hB6 : Below w6.heap.size w6 w6 := Below.refl _ _
     go_upto_region 12 with fail
     go_cut [73] from 56 to 72 (fun s73 wx => s73 = .bool false ∧ Below w6.heap.size w6 wx)
     case first =>
      cases ok with
      | true =>
       have HNE := hide (HMV.out.1 rfl)
       go_wp2_with (first
        | (go_at_call 16; with_reducible refine (Htext.out _ (HF.out _ (by first | with_reducible assumption | exact ab0))).mono ?_; rintro e w7 ⟨rfl, hb7⟩; obtain ⟨hcc7, hff7, hs7⟩ := bC hb7; (try simp at hs7); have hz7 : Dd < w7.heap.size := oM; have hx7 : C < w7.heap.size := oM)
        | (go_at_call 15; with_reducible refine (Hkey.out _ (HF.out _ (by first | with_reducible assumption | exact ab0))).mono ?_; rintro e w8 ⟨rfl, hb8⟩; obtain ⟨hcc8, hff8, hs8⟩ := bC hb8; (try simp at hs8); have hz8 : Dd < w8.heap.size := oM; have hx8 : C < w8.heap.size := oM)
        | (go_at_call 15; with_reducible refine (HkeyP.out _ (HF.out _ (by first | with_reducible assumption | exact ab0))).mono ?_; rintro e w9 ⟨rfl, hb9⟩; obtain ⟨hcc9, hff9, hs9⟩ := bC hb9; (try simp at hs9)))
       go_meet
       exact ⟨by rw [beq_false_of_ne HNE.out], ab0⟩
      | false =>
       have HEQ := hide (congrArg PW.keyP (HMV.out.2 rfl))
       go_wp2_with (first
        | (go_at_call 16; with_reducible refine (Htext.out _ (HF.out _ (by first | with_reducible assumption | exact ab0))).mono ?_; rintro e w7 ⟨rfl, hb7⟩; obtain ⟨hcc7, hff7, hs7⟩ := bC hb7; (try simp at hs7); have hz7 : Dd < w7.heap.size := oM; have hx7 : C < w7.heap.size := oM)
        | (go_at_call 15; with_reducible refine (Hkey.out _ (HF.out _ (by first | with_reducible assumption | exact ab0))).mono ?_; rintro e w8 ⟨rfl, hb8⟩; obtain ⟨hcc8, hff8, hs8⟩ := bC hb8; (try simp at hs8); have hz8 : Dd < w8.heap.size := oM; have hx8 : C < w8.heap.size := oM)
        | (go_at_call 15; with_reducible refine (HkeyP.out _ (HF.out _ (by first | with_reducible assumption | exact ab0))).mono ?_; rintro e w9 ⟨rfl, hb9⟩; obtain ⟨hcc9, hff9, hs9⟩ := bC hb9; (try simp at hs9)))
       go_meet
       exact ⟨by rw [HEQ.out]; simp, ab0⟩
     case rest =>
      obtain ⟨w7, hw7⟩ : ∃ W : World, W = wc := ⟨_, rfl⟩
      subst hw7
      obtain ⟨rfl, hb7⟩ := hcut
      have hs7 := hb7.size
      have hDw7 : Dd < w7.heap.size := by omega
      have hCw7 : C < w7.heap.size := by omega
      have hXD7 := XD6.out.below hb7
      have hXC7 := XC6.out.below hb7
      have hBr7 : Below wr.heap.size wr w7 := HBc.out.trans ((HB6.out.trans (hb7.mono HB6.out.size)).mono HBc.out.size)
      have hH7 := HH.out.below (HF.out _ hb7)
      have hO7 : w7.ownsMap Tryz.prog 9 strE bm (Maps.size D) D := HO.out.1.kept (grown_of_below hBr7 none) sM
      have hsz : Maps.size D ≤ k := HO.out.2
      have htidy := hO7.tidy (string_keyed Tryz.underlying9)
      have XD7 := hide hXD7
      have XC7 := hide hXC7
      have HBr7 := hide hBr7
      have HH7 := hide hH7
      have HO7 := hide hO7
      have Htidy := hide htidy
      clear hb7 hXD7 hXC7 hBr7 hH7 hO7 htidy y0 y1 y2 y3 y4 y5 y6 y7 y8 yf c0 c1 c2 c3 c4' c5 c6 c7 c8 cf hB6 HF Hkey Hout Htext HkeyP
      go_upto_region 15 with (at_lookup; refine wpList_lookup_own_ok _ rfl _ _ 55 rfl 9 9 (string_keyed Tryz.underlying9) Tryz.underlying55 strE (zero_string _) (.lit (.string [])) [] rfl bm (Maps.size D) D rfl HO7.out _ (.string P2.keyP) rfl Hkl.out ?_; intro v pl hv; obtain ⟨b, rfl⟩ := strE_any hv; have Hv := hide hv; clear hv)
      obtain ⟨has, hhas⟩ : ∃ h : Bool, h = Maps.has D (.string P2.keyP) := ⟨_, rfl⟩
      rw [← hhas]
      have Hhas := hide hhas
      clear hhas
      go_cut [85] from 80 to 84 (fun s85 wx => s85 = .bool false ∧ w7 = wx)
      case first =>
       cases has with
       | false =>
        go_wp2_with fail
        go_meet
        exact ⟨rfl, rfl⟩
       | true =>
        obtain ⟨n', P', h1, h2, h3⟩ := HM.out _ Hhas.out.symm
        have hv := Hv.out
        rw [h3, key_out h1 HH.out.i h2] at hv
        have hv2 := strE_str hv
        injection hv2 with hv3
        subst hv3
        clear Hhas h1 h2 h3 hv
        go_wp2_with fail
        go_meet
        exact ⟨by simp, rfl⟩
      case rest =>
       obtain ⟨rfl, rfl⟩ := hcut
       go_wp2_with (at_mapUpdate; refine wpList_mapUpdate_own _ rfl _ _ _ 55 rfl 9 9 (string_keyed Tryz.underlying9) Tryz.underlying55 strE bm (Maps.size D) D rfl HO7.out (by unfold maxLen; omega) _ _ _ rfl rfl Hkl.out (.lit (.string P2.outP)) [] rfl ?_; intro w8 hown8 hg8; have hs8 := hg8.size; have hDw8 : Dd < w8.heap.size := oM; have hCw8 : C < w8.heap.size := oM; have XD8 := hide (XD7.out.grownB hg8 oM); have XC8 := hide (XC7.out.grownB hg8 oM); obtain ⟨y0, y1, y2, y3, y4, y5, y6, y7, y8, yf⟩ := box9 XD8.out; obtain ⟨c0, c1, c2, c3, c4', c5, c6, c7, c8, cf⟩ := box9 XC8.out; have Hown8 := hide hown8; have Hg8 := hide hg8; clear hown8 hg8)
       obtain ⟨w9, hw9⟩ : ∃ W : World, W = setFrom w8 C 0 (wol V2) := ⟨_, rfl⟩
       have hg9 : w8.grownBy w9 (Option.some C) := by rw [hw9]; exact grownBy_setFrom C _ 0 w8
       have hHH8 : Held w.heap.size n (k + 1) w8 V2 P2 := HH7.out.grownB HOff.out.2.1 hwb (StrM.of HO7.out) Hg8.out
       have hXT9 : XT w.heap.size n (k + 1) C w9 V2 P2 := by rw [hw9]; exact XT.fill hHH8 HOff.out.1 XC8.out hCw8 hCw
       have hB7 : Below w.heap.size w w7 := HB.out.trans (HBr7.out.mono HB.out.size)
       have hB8 : Below w.heap.size w w8 := hB7.trans (below_of_grownBy Hg8.out hwb hB7.size)
       have hB9 : Below w.heap.size w w9 := by rw [hw9]; exact below_setFrom hCw _ _ hB8
       have hO9 := ownsMap_refit (Hown8.out.kept hg9 (by intro e; injection e with e; omega))
       have hsz9 : Maps.size (D.put (.string P2.keyP) (.lit (.string P2.outP))) ≤ k + 1 := by rw [Maps.size_put Htidy.out]; split <;> omega
       have hM9 : Met n (D.put (.string P2.keyP) (.lit (.string P2.outP))) := HM.out.put HO7.out.isMap HH.out.i
       have hg4C : Option.some g4 ≠ Option.some C := by intro e; injection e with e; omega
       have hg4b : Option.some g4 ≠ Option.some bm := by intro e; injection e with e; omega
       have hR9 : Rd w9 w9.heap.size 3 (some ⟨g4, 0, none⟩) (1 + m) ((pk9 :: ps).flatMap pkc) := HR.out.blk ((hg9.block g4 oM hg4C).trans ((Hg8.out.block g4 oM hg4b).trans (HBr7.out.block g4 hzb))) (by have := hg9.size; omega)
       simp only [setFrom, wol, Nat.zero_add, Nat.reduceAdd] at hw9
       rw [← hw9]
       exact ⟨⟨k + 1, V2, P2, _, by go_num, by omega, hide ⟨hXT9, HOff.out.2.1⟩, hide hB9, hide ⟨hO9, hsz9⟩, hide hM9, hide hR9⟩, by simp [intOf]; omega⟩
  ·have hlt' : ¬ (k : Int) < 1 + (m : Int) := hlt
   have hBr := HB.out
   have hsr := HB.out.size
   go_wp2_with (first | (go_at_call 8; refine (awake59_any _ (HTab.out.below (N := w.heap.size) (by first | with_reducible assumption | exact ab0) hg) (by first | omega | (simp; done) | (simp; omega))).mono ?_; rintro e w9 ⟨rfl, hb9⟩))
   go_ret
   exact ⟨rfl, ab0⟩
end Go.Proofs.YtnnmenmifphadaaGreatDoor
namespace Go.Proofs.YtnnmenmifphadaaGreatDoor.lawOu
open Go.ChangeShapes Go.WideShapes Go.ChangeAt Go.RowKit
theorem own : ownKnob Tryz.prog.godebug = none := by kernel_rfl
theorem tabMet {W : World} (h : laidMetH Tryz.prog Rows.exploreOutcomesRow.laid W) : Tab W ∧ 0 < W.heap.size := by
 have h1 : laidMet Tryz.prog Rows.exploreOutcomesRow.laid W := h
 have ht : Tab W := Lib.tabIs_of_head (g := 0) (rest := []) kR kR Tryz.underlying264 Tryz.underlying162 kR kR (laidMet_drop (laidMet_drop h1))
 refine ⟨ht, ?_⟩
 have q := ht.cell (show Tryz.prog.globalNamed "internal/strconv.uint64pow10" = some 0 by kernel_rfl) 0 dM
 exact cell_lt q
theorem walk : LawWalkL Tryz.prog 4 #[22, 25, 54] Rows.exploreOutcomesRow.laid := by
 intro H enc W base args ds p hval hA hlt hL
 obtain ⟨v0, v1, v2, d0, d1, d2, p0, p1, p2, rfl, rfl, rfl, h0, h1, h2⟩ := trodAll_three hA
 obtain ⟨A, n, cap, e0⟩ := okWide_slice Tryz.underlying22 (hval 0 22 v0 rfl rfl)
 obtain ⟨pA, m, pc, e2⟩ := okWide_slice Tryz.underlying54 (hval 2 54 v2 rfl rfl)
 obtain ⟨x, rfl, hx, hxo⟩ := rd_rows59 (hval 1 25 v1 rfl rfl) h1
 subst e0 e2
 obtain ⟨fu0, hf0⟩ := h0
 obtain ⟨fu2, hf2⟩ := h2
 obtain ⟨A', cap', ws, e0, hws, hr⟩ := rd_words59 hf0
 obtain ⟨pA', pc', ps, e2, hpo, hpr⟩ := rd_picks59 hf2
 injection e0 with a1 a2 a3
 injection e2 with b1 b2 b3
 subst a1 a3 b1 b3
 obtain ⟨ht, hg⟩ := tabMet hL
 rw [← a2] at hr
 rw [← b2] at hpr
 by_cases hbad : (∃ k, k < 3 ∧ 4 < (x.l k).length) ∨ 7 < x.tot 3 ∨ n = 0 ∨ 12 < n
 ·exact out_far A n cap x pA m pc W ht hg hbad
 ·have h4 : ∀ k, k < 3 → (x.l k).length ≤ 4 := fun k hk => by
   rcases Nat.lt_or_ge 4 (x.l k).length with h | h
   ·exact absurd (.inl ⟨k, hk, h⟩) hbad
   ·exact h
  have h5 : ¬ (7 < x.tot 3 ∨ n = 0 ∨ 12 < n) := fun h => hbad (.inr h)
  by_cases hm : m ≤ 12
  ·exact out_main A n cap ws x pA m pc ps W ht hg a2.symm hr hws hx (fun k a ha => hxo k a ha) h4 oM oM oM hm b2.symm hpo hpr
  ·exact out_long A n cap ws x pA m pc W ht hg a2.symm hr hx h4 oM oM oM oM
def cellsOfD : DataW Unit → Array Value
 | .agg xs => (xs.map fun | .lit (.int k n) => .int k n | _ => undef).toArray
 | _ => #[]
def layD (d : DataW Unit) : Obj → Obj
 | .cells _ t frozen => .cells (cellsOfD d) t frozen
 | o => o
noncomputable def laidWorld (os : Os) : World :=
 { World.holding Tryz.prog os ⟨#[], #[], []⟩ with heap := (((World.holding Tryz.prog os ⟨#[], #[], []⟩).heap.modify 0 (layD Rows.laid_internal_strconv_uint64pow10)).modify 2 (layD Rows.laid_math_bits_deBruijn32tab)).modify 3 (layD Rows.laid_math_bits_deBruijn64tab) }
theorem laid_met (os : Os) : laidMet Tryz.prog Rows.exploreOutcomesRow.laid ((laidWorld os).forCall (fun _ _ => 0) ⟨#[], #[.slice none 0 0, .agg #[.slice none 0 0, .slice none 0 0, .slice none 0 0], .slice none 0 0], []⟩).memory :=
 laidMet_of_run' 8 kR kR
theorem reads (os : Os) {H : Type} (enc : TypeId × Value → H) : ∃ places, DataW.whole enc Tryz.prog ((laidWorld os).forCall (fun _ _ => 0) ⟨#[], #[.slice none 0 0, .agg #[.slice none 0 0, .slice none 0 0, .slice none 0 0], .slice none 0 0], []⟩).memory Tryz.f4.params.toList Rows.exploreOutcomesSpec.vars false (#[.slice none 0 0, .agg #[.slice none 0 0, .slice none 0 0, .slice none 0 0], .slice none 0 0] : Array Value).toList 8 = some ([.nil, .agg [.nil, .nil, .nil], .nil], [], places) :=
 ⟨[], by kernel_rfl⟩
theorem lifted (os : Os) (started : os.Started) (H : Type) (enc : TypeId × Value → H) (F : Stop.Interp) :
  ReturnsInHanded {} Tryz.checked os 4 .any ((OpenSpec.ofChange Rows.exploreOutcomesSpec).preRow enc Tryz.prog Tryz.f4 Rows.exploreOutcomesRow.domain false Rows.exploreOutcomesRow.laid) (((OpenSpec.ofChange Rows.exploreOutcomesSpec).at F).post enc Tryz.prog Tryz.f4 false true false false) := by
 obtain ⟨places, hx⟩ := reads os enc
 refine returnsInHanded_of_row (C := Tryz.checked) (s := OpenSpec.ofChange Rows.exploreOutcomesSpec) own started kR Tryz.func4
  (witness_row_at (enc := enc) (C := Tryz.checked) false (laidWorld os) #[.slice none 0 0, .agg #[.slice none 0 0, .slice none 0 0, .slice none 0 0], .slice none 0 0] rfl kR kR kR
   (OpenSpec.preRow_of_cond 8 hx kR (fun k hk => by cases hk) kR (laid_met os))) ?_
 intro W base args ds gs before hval hW _ _ _ hL _ _
 exact law_contract (s := Rows.exploreOutcomesSpec) kR kR Tryz.underlying4 kR ⟨rfl, fun H ds h => by match ds, h with | [d1, d2, d3], _ => exact ⟨rfl, rfl, rfl⟩⟩ (by rw [Tryz.params4]; exact walk) W base args ds gs before hval hW hL
theorem over : Rows.exploreOutcomesRow.holds Tryz.pinned (OpenSpec.ofChange Rows.exploreOutcomesSpec) :=
 OpenClaim.holds_of_cond 4 Tryz.f4 rfl rfl rfl rfl rfl rfl rfl ⟨rfl, rfl, rfl, rfl, rfl⟩ rfl rfl rfl rfl rfl kR Tryz.func4 kR
  (of_decide_eq_true kR) (by unfold Func.isWrapper; first | (rw [if_pos (by decide +kernel)]; kernel_rfl) | (rw [if_neg (by decide +kernel)]; exact ⟨rfl, rfl⟩))
  (fun os started H enc _ F => by rw [OpenClaim.pre_eq_preRow]; exact lifted os started H enc F)
theorem plainLaw (f : FuncId) (fn : Func) (hf : Tryz.pinned.checked.prog.funcNamed "simulcast/simulcastlaw59.ExploreOutcomes" = some f) (hfn : Tryz.pinned.checked.prog.funcs[f]? = some fn) :
  true = Tryz.pinned.checked.prog.looks [] ∧ ∀ (j : Nat) t, fn.params[j]? = some t → Tryz.pinned.checked.prog.wantsStandIn t = false := by
 obtain rfl : f = 4 := Option.some.inj ((show Tryz.prog.funcNamed "simulcast/simulcastlaw59.ExploreOutcomes" = some 4 by kernel_rfl).symm.trans hf) |>.symm
 obtain rfl : fn = Tryz.f4 := (Option.some.inj (Tryz.func4.symm.trans hfn)).symm
 refine ⟨by kernel_rfl, fun j t ht => ?_⟩
 rw [Tryz.params4] at ht
 have hm := Array.mem_of_getElem? ht
 have hall : ∀ t ∈ (#[22, 25, 54] : Array TypeId), Tryz.prog.wantsStandIn t = false := by
  intro t h
  simp only [List.mem_toArray, List.mem_cons, List.not_mem_nil, or_false] at h
  rcases h with rfl | rfl | rfl
  all_goals kernel_rfl
 exact hall t hm
theorem card : Rows.ExploreOutcomesCardSaid :=
 Claim7.holds_tied_plain_at .later [] _ _ _ _ over (fun _ h => by cases h) kR (fun _ h => by cases h) exploreOutcomes_row_tie rfl ⟨rfl, rfl⟩ kR rfl plainLaw kR
theorem proved : Rows.ExploreOutcomesCardSaid := card
end Go.Proofs.YtnnmenmifphadaaGreatDoor.lawOu
