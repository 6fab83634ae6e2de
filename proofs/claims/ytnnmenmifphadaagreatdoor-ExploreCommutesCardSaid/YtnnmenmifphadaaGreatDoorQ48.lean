/- ExploreCommutes: after any steps, independent pending actions of two threads lead to the same key and outcome in either order, with any choices; the example of the chapter holds. -/
import Derived.Test.YtnnmenmifphadaaGreatDoorCards
import Derived.Test.YtnnmenmifphadaaGreatDoorTie
import Derived.Laws.IdiomArrays
import Derived.Test.YtnnmenmifphadaaGreatDoorQ03
import Derived.Test.YtnnmenmifphadaaGreatDoorQ05
import Derived.Test.YtnnmenmifphadaaGreatDoorQ07
import Derived.Test.YtnnmenmifphadaaGreatDoorQ46
import Derived.Test.YtnnmenmifphadaaGreatDoorQ47
set_option linter.unusedSimpArgs false
set_option linter.unusedVariables false
set_option maxRecDepth 100000
set_option maxHeartbeats 40000000
namespace Go.Proofs.YtnnmenmifphadaaGreatDoor
open Go.ChangeShapes Go.WideShapes Go.ChangeAt Go.RowKit Go.Deep
structure PkV where
 kd : Int
 th : Int
 ch : Int
def pkc (p : PkV) : List Value := [.int .i64 (p).kd, .int .i64 (p).th, .int .i64 (p).ch]
def PkV.ok (p : PkV) : Prop := (inI p.kd ∧ inI p.th) ∧ inI p.ch
def AS.okA (a : AS) : Prop := (actP a).new.okW ∧ inI a.l
theorem inI_of {z : Int} (h : (Lit.int .i64 z).wf = true) : inI z := by
 simp [Lit.wf, IntKind.min, IntKind.max, IntKind.signed, IntKind.bits] at h
 exact h
theorem u32_of {z : Int} (h : (Lit.int .u32 z).wf = true) : 0 ≤ z ∧ z ≤ 4294967295 := by
 simp [Lit.wf, IntKind.min, IntKind.max, IntKind.signed, IntKind.bits] at h
 omega
section
variable {H : Type} {enc : TypeId × Value → H} {w : World} {base : Nat} {spare : Nat → Bool} {held : Bool}
theorem okW_of {v r f : Int} (h1 : (Lit.int .i64 v).wf = true) (h2 : (Lit.int .u32 r).wf = true) (h3 : (Lit.int .u32 f).wf = true) : (W3.mk v r f).okW := ⟨inI_of h1, u32_of h2, u32_of h3⟩
theorem rd_words59 {u : Value} {y : DataW H × List MemPlace} {fuel : Nat} (hf : DataW.trod enc Tryz.prog w base spare held fuel 22 [u] = some y) :
  ∃ (A : Option Addr) (cap : Nat) (l : List W3), u = .slice A l.length cap ∧ (∀ x ∈ l, x.okW) ∧ Rd w w.heap.size 3 A l.length (l.flatMap w3c) := by
 obtain ⟨A, n, cap, xs, rfl, -, hm, hr, hx⟩ := rd_cells_c Tryz.underlying22 (C := 3) kR dM hf
 obtain ⟨l, rfl, hok, rfl⟩ := told_good 3 w3c (fun _ => rfl) W3.okW n xs hr.1 (fun i hi => by
  obtain ⟨m, cs, y, hl, hj, ht⟩ := hx i hi
  obtain ⟨m', hf⟩ := fields_of Tryz.underlying66 kR hl ht
  obtain ⟨u0, y0, e0, t0⟩ := hf 0 _ rfl
  obtain ⟨u1, y1, e1, t1⟩ := hf 1 _ rfl
  obtain ⟨u2, y2, e2, t2⟩ := hf 2 _ rfl
  obtain ⟨z0, rfl, w0⟩ := int_of Tryz.underlying2 t0
  obtain ⟨z1, rfl, w1⟩ := int_of Tryz.underlying64 t1
  obtain ⟨z2, rfl, w2⟩ := int_of Tryz.underlying64 t2
  exact ⟨⟨z0, z1, z2⟩, okW_of w0 w1 w2, fun j hjl => by
   rw [hj j hjl]
   match j, hjl with
   | 0, _ => exact e0
   | 1, _ => exact e1
   | 2, _ => exact e2⟩)
 exact ⟨A, cap, l, rfl, hok, hr⟩
theorem rd_picks59 {u : Value} {y : DataW H × List MemPlace} {fuel : Nat} (hf : DataW.trod enc Tryz.prog w base spare held fuel 54 [u] = some y) :
  ∃ (A : Option Addr) (cap : Nat) (l : List PkV), u = .slice A l.length cap ∧ (∀ x ∈ l, x.ok) ∧ Rd w w.heap.size 3 A l.length (l.flatMap pkc) := by
 obtain ⟨A, n, cap, xs, rfl, -, hm, hr, hx⟩ := rd_cells_c Tryz.underlying54 (C := 3) kR dM hf
 obtain ⟨l, rfl, hok, rfl⟩ := told_good 3 pkc (fun _ => rfl) PkV.ok n xs hr.1 (fun i hi => by
  obtain ⟨m, cs, y, hl, hj, ht⟩ := hx i hi
  obtain ⟨m', hf⟩ := fields_of Tryz.underlying57 kR hl ht
  obtain ⟨u0, y0, e0, t0⟩ := hf 0 _ rfl
  obtain ⟨u1, y1, e1, t1⟩ := hf 1 _ rfl
  obtain ⟨u2, y2, e2, t2⟩ := hf 2 _ rfl
  obtain ⟨z0, rfl, w0⟩ := int_of Tryz.underlying3 t0
  obtain ⟨z1, rfl, w1⟩ := int_of Tryz.underlying3 t1
  obtain ⟨z2, rfl, w2⟩ := int_of Tryz.underlying3 t2
  exact ⟨⟨z0, z1, z2⟩, ⟨⟨inI_of w0, inI_of w1⟩, inI_of w2⟩, fun j hjl => by
   rw [hj j hjl]
   match j, hjl with
   | 0, _ => exact e0
   | 1, _ => exact e1
   | 2, _ => exact e2⟩)
 exact ⟨A, cap, l, rfl, hok, hr⟩
theorem rd_act59 {m : Nat} {cs : List Value} {y : DataW H × List MemPlace} (hl : cs.length = 8) (hf : DataW.trod enc Tryz.prog w base spare held m 68 cs = some y) : ∃ a : AS, a.okA ∧ cs = actc a := by
 match cs, hl with
 | [c0, c1, c2, c3, c4, c5, c6, c7], _ =>
  have c0' : Tryz.prog.cellsOf 3 = 1 := by kernel_rfl
  have c1' : Tryz.prog.cellsOf 63 = 1 := by kernel_rfl
  have c2' : Tryz.prog.cellsOf 66 = 3 := by kernel_rfl
  obtain ⟨ys, n', -, -, -, hyl, hf'⟩ := DataW.trod_struct Tryz.underlying68 hf
  match ys, hyl with
  | [y0, y1, y2, y3], _ =>
  have k0 : DataW.trod enc Tryz.prog w base spare held n' 3 [c0] = some y0 := by simpa [c0'] using hf' 0 ⟨"Op", 3, 0, false, "", "", 0⟩ rfl
  have k1 : DataW.trod enc Tryz.prog w base spare held n' 63 [c1] = some y1 := by simpa [c1'] using hf' 1 ⟨"At", 63, 1, false, "", "", 8⟩ rfl
  have k2 : DataW.trod enc Tryz.prog w base spare held n' 66 [c2, c3, c4] = some y2 := by simpa [c2'] using hf' 2 ⟨"Old", 66, 2, false, "", "", 16⟩ rfl
  have k3 : DataW.trod enc Tryz.prog w base spare held n' 66 [c5, c6, c7] = some y3 := by simpa [c2'] using hf' 3 ⟨"New", 66, 5, false, "", "", 32⟩ rfl
  obtain ⟨z0, rfl, w0⟩ := int_of Tryz.underlying3 k0
  obtain ⟨z1, rfl, w1⟩ := int_of Tryz.underlying63 k1
  obtain ⟨m2, g2⟩ := fields_of (cs := [c2, c3, c4]) Tryz.underlying66 kR rfl k2
  obtain ⟨m3, g3⟩ := fields_of (cs := [c5, c6, c7]) Tryz.underlying66 kR rfl k3
  obtain ⟨u0, y0, e0, t0⟩ := g2 0 _ rfl
  obtain ⟨u1, y1, e1, t1⟩ := g2 1 _ rfl
  obtain ⟨u2, y2, e2, t2⟩ := g2 2 _ rfl
  obtain ⟨u3, y3, e3, t3⟩ := g3 0 _ rfl
  obtain ⟨u4, y4, e4, t4⟩ := g3 1 _ rfl
  obtain ⟨u5, y5, e5, t5⟩ := g3 2 _ rfl
  injection e0 with e0; subst e0
  injection e1 with e1; subst e1
  injection e2 with e2; subst e2
  injection e3 with e3; subst e3
  injection e4 with e4; subst e4
  injection e5 with e5; subst e5
  obtain ⟨z2, rfl, w2⟩ := int_of Tryz.underlying2 t0
  obtain ⟨z3, rfl, w3⟩ := int_of Tryz.underlying64 t1
  obtain ⟨z4, rfl, w4⟩ := int_of Tryz.underlying64 t2
  obtain ⟨z5, rfl, w5⟩ := int_of Tryz.underlying2 t3
  obtain ⟨z6, rfl, w6⟩ := int_of Tryz.underlying64 t4
  obtain ⟨z7, rfl, w7⟩ := int_of Tryz.underlying64 t5
  exact ⟨⟨z0, z1, z2, z3, z4, z5, z6, z7⟩, ⟨okW_of w5 w6 w7, inI_of w1⟩, rfl⟩
theorem rd_row59 {u : Value} {y : DataW H × List MemPlace} {fuel : Nat} (hf : DataW.trod enc Tryz.prog w base spare held fuel 23 [u] = some y) :
  ∃ (A : Option Addr) (cap : Nat) (l : List AS), u = .slice A l.length cap ∧ (∀ x ∈ l, x.okA) ∧ Rd w w.heap.size 8 A l.length (l.flatMap actc) := by
 obtain ⟨A, n, cap, xs, rfl, -, hm, hr, hx⟩ := rd_cells_c Tryz.underlying23 (C := 8) kR dM hf
 obtain ⟨l, rfl, hok, rfl⟩ := told_good 8 actc (fun _ => rfl) AS.okA n xs hr.1 (fun i hi => by
  obtain ⟨m, cs, y, hl, hj, ht⟩ := hx i hi
  obtain ⟨a, ha, rfl⟩ := rd_act59 hl ht
  exact ⟨a, ha, hj⟩)
 exact ⟨A, cap, l, rfl, hok, hr⟩
theorem rd_rows59 {v : Value} {d : DataW H} {p : List MemPlace} {r : Reach} {b0 : Nat} (hv : Value.okWide Tryz.prog w r b0 25 v) (h : DataW.Trod enc Tryz.prog w base spare held 25 v d p) :
  ∃ x : ActsV, v = .agg #[x.sl 0, x.sl 1, x.sl 2] ∧ x.R w w.heap.size ∧ ∀ k, ∀ a ∈ x.l k, a.okA := by
 have ht := Tryz.underlying25
 have hc3 : Tryz.prog.cellsOf 25 = 3 := by kernel_rfl
 simp only [Value.okWide, ht] at hv
 obtain ⟨cs, rfl, hsz, _⟩ := hv
 rw [hc3] at hsz
 obtain ⟨cs⟩ := cs
 match cs, hsz with
 | [c0, c1, c2], _ =>
  obtain ⟨fuel, hf⟩ := h
  obtain ⟨y0, y1, y2, m, _, hy0, hy1, hy2⟩ := trod_array3 ht kR (c0 := c0) (c1 := c1) (c2 := c2) hf
  obtain ⟨A0, p0, l0, rfl, o0, r0⟩ := rd_row59 hy0
  obtain ⟨A1, p1, l1, rfl, o1, r1⟩ := rd_row59 hy1
  obtain ⟨A2, p2, l2, rfl, o2, r2⟩ := rd_row59 hy2
  refine ⟨⟨fun k => if k = 0 then A0 else if k = 1 then A1 else A2, fun k => if k = 0 then p0 else if k = 1 then p1 else p2, fun k => if k = 0 then l0 else if k = 1 then l1 else l2⟩, rfl, fun k hk => ?_, fun k => ?_⟩
  ·have h3 : k = 0 ∨ k = 1 ∨ k = 2 := by omega
   rcases h3 with rfl | rfl | rfl
   ·exact r0
   ·exact r1
   ·exact r2
  ·show ∀ a ∈ (if k = 0 then l0 else if k = 1 then l1 else l2), a.okA
   split
   ·exact o0
   ·split
    ·exact o1
    ·exact o2
end
theorem laidMet_drop {P : Program} {x : String × DataW Unit} {r : List (String × DataW Unit)} {w : World} (h : laidMet P (x :: r) w) : laidMet P r w := by
 obtain ⟨ps, h1, h2, h3⟩ := h
 obtain ⟨n, d⟩ := x
 obtain ⟨g, t, cs, fuel, p, q, _, _, _, _, hq, rfl⟩ := h1
 exact ⟨q, hq, (List.nodup_append.1 h2).2.1, fun b off hb => h3 b off (List.mem_append_right _ hb)⟩
end Go.Proofs.YtnnmenmifphadaaGreatDoor
namespace Go.Proofs.YtnnmenmifphadaaGreatDoor
open Go.RowKit Go.Maps Go.Sort
theorem comm_far (A : Option Addr) (n cap : Nat) (x : ActsV) (pA : Option Addr) (m pc : Nat) (w : World) (ht : Tab w) (hg : 0 < w.heap.size) (hb : (∃ k, k < 3 ∧ 4 < (x.l k).length) ∨ 7 < x.tot 3 ∨ n = 0 ∨ 12 < n) :
  Calls Tryz.prog 5 #[.slice A n cap, .agg #[x.sl 0, x.sl 1, x.sl 2], .slice pA m pc] w (Ret (.bool true) w) := by
 have hno := fun W => world_no A n cap x W hb
 have Hno := hide hno
 have HTab := hide ht
 clear hno hb ht
 go_enter Tryz.func5, Tryz.ntmps5
 go_wp2_with (first
  | (go_at_call 7; refine (Hno.out _).mono ?_; rintro e w1 ⟨rfl, hb1⟩; have hs1 := hb1.size; (try simp at hs1))
  | (go_at_call 8; refine (awake59_any _ (HTab.out.below (N := w.heap.size) (by first | with_reducible assumption | exact ab0) hg) (by first | omega | (simp; done) | (simp; omega))).mono ?_; rintro e w9 ⟨rfl, hb9⟩))
 go_ret
 exact ⟨rfl, ab0⟩
theorem comm_long (A : Option Addr) (n cap : Nat) (ws : List W3) (x : ActsV) (pA : Option Addr) (m pc : Nat) (w : World) (ht : Tab w) (hg : 0 < w.heap.size) (hw : ws.length = n) (hr : Rd w w.heap.size 3 A n (ws.flatMap w3c)) (hx : x.R w w.heap.size) (h4 : ∀ k, k < 3 → (x.l k).length ≤ 4) (h7 : x.tot 3 ≤ 7) (hn1 : 1 ≤ n) (hn2 : n ≤ 12) (hm : 12 < m) :
  Calls Tryz.prog 5 #[.slice A n cap, .agg #[x.sl 0, x.sl 1, x.sl 2], .slice pA m pc] w (Ret (.bool true) w) := by
 have hok := fun W (hW : Below w.heap.size w W) => world_ok A n cap ws x W hw ((hr.below hW).more hW.size) (fun k hk => ((hx k hk).below hW).more hW.size) h4 h7 hn1 hn2
 have Hok := hide hok
 have HTab := hide ht
 have g1 : (m : Int) > 12 := by omega
 have g2 : (12 : Int) < (m : Int) := by omega
 clear hok hr hx h4 h7 hn1 hn2 ht hw hm
 go_enter Tryz.func5, Tryz.ntmps5
 go_wp2_with (first
  | (go_at_call 7; refine (Hok.out _ (by first | with_reducible assumption | exact ab0)).mono ?_; rintro e w1 ⟨V, rfl, hS, hR, hb1⟩; have hs1 := hb1.size; (try simp at hs1); clear hS hR)
  | (go_at_call 8; refine (awake59_any _ (HTab.out.below (N := w.heap.size) (by first | with_reducible assumption | exact ab0) hg) (by first | omega | (simp; done) | (simp; omega))).mono ?_; rintro e w9 ⟨rfl, hb9⟩))
 go_ret
 exact ⟨rfl, ab0⟩
theorem comm_main (A : Option Addr) (n cap : Nat) (ws : List W3) (x : ActsV) (pA : Option Addr) (m pc : Nat) (ps : List PkV) (w : World) (ht : Tab w) (hg : 0 < w.heap.size) (hw : ws.length = n) (hr : Rd w w.heap.size 3 A n (ws.flatMap w3c)) (hws : ∀ y ∈ ws, y.okW) (hx : x.R w w.heap.size) (hxo : ∀ k, ∀ a ∈ x.l k, (actP a).new.okW ∧ inI a.l) (h4 : ∀ k, k < 3 → (x.l k).length ≤ 4) (h7 : x.tot 3 ≤ 7) (hn1 : 1 ≤ n) (hn2 : n ≤ 12) (hm : m ≤ 12) (hp : ps.length = m) (hpo : ∀ p ∈ ps, p.ok) (hpr : Rd w w.heap.size 3 pA m (ps.flatMap pkc)) :
  Calls Tryz.prog 5 #[.slice A n cap, .agg #[x.sl 0, x.sl 1, x.sl 2], .slice pA m pc] w (Ret (.bool true) w) := by
 have hok := fun W (hW : Below w.heap.size w W) => world_held A n cap ws x w W hW hg ht hw hr hws hx hxo h4 h7 hn1 hn2
 have Hok := hide hok
 have HTab := hide ht
 have Hpr := hide hpr
 have Hpo := hide hpo
 have g1 : ¬ (m : Int) > 12 := by omega
 have g2 : ¬ (12 : Int) < (m : Int) := by omega
 have hm1 : m ≤ 12 := hm
 have Hp := hide hp
 clear hok hr hws hx hxo h4 h7 hn1 hn2 ht hw hm hpo hpr hp
 go_enter Tryz.func5, Tryz.ntmps5
 go_upto_region 2 with (first
  | (go_at_call 7; refine (Hok.out _ (by first | with_reducible assumption | exact ab0)).mono ?_; rintro e w1 ⟨V0, rfl, hH0, hb1⟩; have hs1 := hb1.size; (try simp at hs1); have HH0 := hide hH0; clear hH0))
 obtain ⟨w2, hw2⟩ : ∃ W : World, W = w1.alloc (.cells #[.slice V0.M.mem.pA V0.M.mem.hs.length V0.M.mem.pc, .slice V0.M.mem.vA V0.M.mem.vs.length V0.M.mem.vc, .slice V0.M.ln.fA V0.M.ln.first.length V0.M.ln.fc, .slice V0.M.ln.lA V0.M.ln.logs.length V0.M.ln.lc, .map V0.M.ln.asks, .slice V0.M.sA V0.M.steps.length V0.M.sc, .int .i64 V0.M.crashes, .slice V0.tA V0.ts.length V0.tc, .slice V0.sA V0.ss.length V0.sc] 40) := ⟨_, rfl⟩
 have hB12 : Below w1.heap.size w1 w2 := by rw [hw2]; exact Below.alloc (Below.refl _ _) (Nat.le_refl _) _
 have hs2 : w2.heap.size = w1.heap.size + 1 := by rw [hw2]; simp
 have hXS : XS w.heap.size n 0 w1.heap.size w2 V0 (PW0 ws x) := by
  refine ⟨HH0.out.1.below hB12, HH0.out.2, by rw [hw2]; exact BoxC.made w1 #[.slice V0.M.mem.pA V0.M.mem.hs.length V0.M.mem.pc, .slice V0.M.mem.vA V0.M.mem.vs.length V0.M.mem.vc, .slice V0.M.ln.fA V0.M.ln.first.length V0.M.ln.fc, .slice V0.M.ln.lA V0.M.ln.logs.length V0.M.ln.lc, .map V0.M.ln.asks, .slice V0.M.sA V0.M.steps.length V0.M.sc, .int .i64 V0.M.crashes, .slice V0.tA V0.ts.length V0.tc, .slice V0.sA V0.ss.length V0.sc] 40, WorldV.off_new HH0.out.1.r (Nat.le_refl _), by omega, HH0.out.1.b⟩
 have HXS := hide hXS
 have hB2 : Below w.heap.size w w2 := (ab0 : Below w.heap.size w w1).trans (hB12.mono oM)
 have HB2 := hide hB2
 rw [← hw2]
 clear hw2 hB12 hXS hB2 HH0 hb1
 obtain ⟨C, hC⟩ : ∃ C, C = w1.heap.size := ⟨_, rfl⟩
 rw [← hC] at HXS hs2 ⊢
 have hCw : w.heap.size ≤ C := by omega
 clear hC hs1
 go_wp2_with fail
 go_loopw [39] (fun i wr => ∃ (k : Nat) (V : WorldV) (P : PW), i = .int .i64 k ∧ k ≤ m ∧ Hid (XS w.heap.size n k C wr V P) ∧ Hid (Below w.heap.size w wr)) (fun i _ => m - (intOf i).toNat)
 case atStart => exact ⟨0, V0, PW0 ws x, rfl, by omega, HXS, HB2⟩
 case round =>
  obtain ⟨k, V, P, rfl, hk, HX, HB⟩ := hrel
  have hCr : C < wr.heap.size := HX.out.lt
  by_cases hlt : (k : Int) < m
  ·have hk1 : k < m := by omega
   obtain ⟨p, hpk⟩ : ∃ p, ps[k]? = some p := ⟨_, List.getElem?_eq_getElem (by have := Hp.out; omega)⟩
   obtain ⟨bl, off, e, hbl, hcl⟩ := Rd.elem Hpr.out (fun _ => (rfl : (pkc _).length = 3)) hk1 hpk
   subst e
   have t0 : wr.cell? ⟨bl, off + k * 3, none⟩ = some (.int .i64 p.kd) := (HB.out.cell (p := ⟨bl, off + k * 3, none⟩) hbl).trans (hcl 0 _ rfl)
   have t1 : wr.cell? ⟨bl, off + k * 3 + 1, none⟩ = some (.int .i64 p.th) := (HB.out.cell (p := ⟨bl, off + k * 3 + 1, none⟩) hbl).trans (hcl 1 _ rfl)
   have t2 : wr.cell? ⟨bl, off + k * 3 + 2, none⟩ = some (.int .i64 p.ch) := (HB.out.cell (p := ⟨bl, off + k * 3 + 2, none⟩) hbl).trans (hcl 2 _ rfl)
   have hpk2 := Hpo.out p (List.mem_of_getElem? hpk)
   have hzb : bl < wr.heap.size := by have := HB.out.size; omega
   have hBr : Below wr.heap.size wr wr := Below.refl _ _
   have HBw := hide HB.out
   clear hcl HB hk
   by_cases hk0 : p.kd = 0 ∧ 0 ≤ p.ch
   ·have g3 : (p.kd == 0) = true := by simp [hk0.1]
    have g4 : p.ch ≥ 0 := hk0.2
    have hst := fun W (hW : Below wr.heap.size wr W) => held_any (HX.out.h.below hW) oM HX.out.ns p.th p.ch (WalkArith.wf_i64 hpk2.2)
    rw [hk0.1] at t0
    have Hst := hide hst
    have XB := hide HX.out.x
    obtain ⟨c0, c1, c2, c3, c4, c5, c6, c7, c8, cf⟩ := box9 XB.out
    clear hst hk0 hpk2
    go_wp2_with (first
     | (go_at_call 13; refine (Hst.out _ (by first | with_reducible assumption | exact ab0)).mono ?_; rintro e w5 ⟨V2, P2, ok, rfl, hH2, hns2, hoff2, hb5⟩; have hs5 := hb5.size; (try simp at hs5); have hb5w : Below wr.heap.size wr w5 := ab0; have XB5 := hide (XB.out.below hb5w); have HH2 := hide hH2; have Hns2 := hide hns2; have Hoff2 := hide hoff2; have HB5 := hide hb5w; clear hH2 hns2 hoff2 hb5w hb5 c0 c1 c2 c3 c4 c5 c6 c7 c8 cf; obtain ⟨c0, c1, c2, c3, c4, c5, c6, c7, c8, cf⟩ := box9 XB5.out))
    obtain ⟨wA, hwA⟩ : ∃ W : World, W = setFrom w5 C 0 (wol V2) := ⟨_, rfl⟩
    have hXA : XS w.heap.size n (k + 1) C wA V2 P2 := by
     rw [hwA]
     exact XS.fill HH2.out Hns2.out (Hoff2.out C (by simp; omega) HX.out.off) XB5.out oM hCw
    have hBA : Below w.heap.size w wA := by
     rw [hwA]
     exact below_setFrom hCw _ _ (HBw.out.trans (HB5.out.mono (HBw.out.size)))
    have HXA := hide hXA
    have HBA := hide hBA
    simp only [setFrom, wol, Nat.zero_add, Nat.reduceAdd] at hwA
    clear hXA hBA
    try rw [← hwA]
    go_wp2_with fail
    first
     | exact ⟨⟨k + 1, V2, P2, by go_num, by omega, HXA, HBA⟩, by simp [intOf]; omega⟩
     | ((repeat apply Exists.intro); exact ⟨⟨k + 1, V2, P2, by go_num, by omega, HXA, HBA⟩, by simp [intOf]; omega⟩)
   ·have HXu : Hid (∀ W, Below wr.heap.size wr W → XS w.heap.size n (k + 1) C W V P) := hide (fun W hW => (HX.out.below hW).up)
    have HBu : Hid (∀ W, Below wr.heap.size wr W → Below w.heap.size w W) := hide (fun W hW => HBw.out.trans (hW.mono HBw.out.size))
    by_cases h0 : p.kd = 0
    ·have g3 : (p.kd == 0) = true := by simp [h0]
     have g4 : ¬ p.ch ≥ 0 := by omega
     have g5 : ¬ 0 ≤ p.ch := by omega
     rw [h0] at t0
     clear hk0 hpk2 h0
     go_wp2_with fail
     first
      | exact ⟨⟨k + 1, V, P, by go_num, by omega, hide (HXu.out _ ab0), hide (HBu.out _ ab0)⟩, by simp [intOf]; omega⟩
      | ((repeat apply Exists.intro); exact ⟨⟨k + 1, V, P, by go_num, by omega, hide (HXu.out _ ab0), hide (HBu.out _ ab0)⟩, by simp [intOf]; omega⟩)
    ·have g3 : (p.kd == 0) = false := by simpa using h0
     clear hk0 hpk2 h0
     go_wp2_with fail
     first
      | exact ⟨⟨k + 1, V, P, by go_num, by omega, hide (HXu.out _ ab0), hide (HBu.out _ ab0)⟩, by simp [intOf]; omega⟩
      | ((repeat apply Exists.intro); exact ⟨⟨k + 1, V, P, by go_num, by omega, hide (HXu.out _ ab0), hide (HBu.out _ ab0)⟩, by simp [intOf]; omega⟩)
  ·obtain rfl : m = k := by omega
   obtain ⟨wz, hwz⟩ : ∃ W : World, W = wr := ⟨_, rfl⟩
   rw [← hwz] at HX HB hCr ⊢
   clear hwz wr
   have hm99 : m + 2 ≤ 99 := by omega
   have HXb : Hid (∀ W, Below wz.heap.size wz W → XS w.heap.size n m C W V P) := hide (fun W hW => HX.out.below hW)
   have HBw : Hid (∀ W, Below wz.heap.size wz W → Below w.heap.size w W) := hide (fun W hW => HB.out.trans (hW.mono HB.out.size))
   have Hch : Hid (∀ t : Nat, t < 3 → ∀ W, Below wz.heap.size wz W → Calls Tryz.prog 17 #[(.agg #[.slice ((V).M).mem.pA ((V).M).mem.hs.length ((V).M).mem.pc, .slice ((V).M).mem.vA ((V).M).mem.vs.length ((V).M).mem.vc, .slice ((V).M).ln.fA ((V).M).ln.first.length ((V).M).ln.fc, .slice ((V).M).ln.lA ((V).M).ln.logs.length ((V).M).ln.lc, .map ((V).M).ln.asks, .slice ((V).M).sA ((V).M).steps.length ((V).M).sc, .int .i64 ((V).M).crashes, .slice (V).tA (V).ts.length (V).tc, .slice (V).sA (V).ss.length (V).sc]), .int .i64 ((t : Int) + 1)] W fun e w' => e = .returned (.int .i64 (P.ch t)) ∧ Below W.heap.size W w') := hide (fun t ht W hW => held_ch (HX.out.h.below hW) oM HX.out.ns ht)
   have Hle : Hid (∀ t, P.ch t ≤ 1000) := hide (fun t => ch_le (HX.out.h.fit oM) t)
   have hsw : w.heap.size ≤ wz.heap.size := HB.out.size
   have Hln := hide HX.out.h.lens
   clear HX HB hlt hk
   have hBz : Below wz.heap.size wz wz := Below.refl _ _
   go_wp2_with fail
   go_loopw [11] (fun i wq => ∃ ta : Nat, i = .int .i64 ((ta : Int) + 1) ∧ ta ≤ 3 ∧ Hid (Below wz.heap.size wz wq)) (fun i _ => 5 - (intOf i).toNat)
   case atStart => exact ⟨0, rfl, by omega, hide (Below.refl _ _)⟩
   case round =>
    obtain ⟨ta, rfl, hta, HB⟩ := hrel
    have hszr := HB.out.size
    by_cases hlta : ta < 3
    ·have g5 : (ta : Int) + 1 ≤ 3 := by omega
     go_wp2_with fail
     go_loopw [12] (fun i wq => ∃ tb : Nat, i = .int .i64 ((tb : Int) + 1) ∧ ta < tb ∧ tb ≤ 3 ∧ Hid (Below wz.heap.size wz wq)) (fun i _ => 5 - (intOf i).toNat)
     case atStart => exact ⟨ta + 1, by go_num, by omega, by omega, hide (HB.out.trans (Below.mono (B := wr.heap.size) ab0 hszr))⟩
     case round =>
      clear HB hszr
      obtain ⟨tb, rfl, htab, htb, HB⟩ := hrel
      have hszr := HB.out.size
      by_cases hltb : tb < 3
      ·have g6 : (tb : Int) + 1 ≤ 3 := by omega
       have X := HXb.out wr HB.out
       have XB := hide X.x
       obtain ⟨c0, c1, c2, c3, c4, c5, c6, c7, c8, cf⟩ := box9 XB.out
       have hCr : C < wr.heap.size := X.lt
       have hBr : Below wr.heap.size wr wr := Below.refl _ _
       have HBr : Hid (∀ W, Below wr.heap.size wr W → Below wz.heap.size wz W) := hide (fun W hW => HB.out.trans (hW.mono hszr))
       by_cases hca : P.ch ta = 0
       ·have e1 : (((P.ch ta : Nat) : Int) == 0) = true := by simp [hca]
        clear X
        go_wp2_with (first
         | (go_at_call 17; refine (Hch.out ta hlta _ (HBr.out _ (by first | with_reducible assumption | exact ab0))).mono ?_; rintro e w5 ⟨rfl, hb5⟩; have hs5 := hb5.size; (try simp at hs5)))
        first
         | exact ⟨⟨tb + 1, by go_num, by omega, by omega, hide (HBr.out _ ab0)⟩, by simp [intOf]; omega⟩
         | (refine ⟨?_, by simp [intOf]; omega⟩; (repeat apply Exists.intro); refine ⟨?_, rfl⟩; exact ⟨tb + 1, by go_num, by omega, by omega, hide (HBr.out _ ab0)⟩)
       have e1 : (((P.ch ta : Nat) : Int) == 0) = false := by simpa using hca
       by_cases hcb : P.ch tb = 0
       ·have e2 : (((P.ch tb : Nat) : Int) == 0) = true := by simp [hcb]
        clear X
        go_wp2_with (first
         | (go_at_call 17; with_reducible refine (Hch.out ta hlta _ (HBr.out _ (by first | with_reducible assumption | exact ab0))).mono ?_; rintro e w5 ⟨rfl, hb5⟩; obtain ⟨hcc5, hff5, hs5⟩ := bC hb5; (try simp at hs5); have hC5 : C < w5.heap.size := oM)
         | (go_at_call 17; with_reducible refine (Hch.out tb hltb _ (HBr.out _ (by first | with_reducible assumption | exact ab0))).mono ?_; rintro e w6 ⟨rfl, hb6⟩; obtain ⟨hcc6, hff6, hs6⟩ := bC hb6; (try simp at hs6)))
        first
         | exact ⟨⟨tb + 1, by go_num, by omega, by omega, hide (HBr.out _ ab0)⟩, by simp [intOf]; omega⟩
         | (refine ⟨?_, by simp [intOf]; omega⟩; (repeat apply Exists.intro); refine ⟨?_, rfl⟩; exact ⟨tb + 1, by go_num, by omega, by omega, hide (HBr.out _ ab0)⟩)
       have e2 : (((P.ch tb : Nat) : Int) == 0) = false := by simpa using hcb
       obtain ⟨pa, hpa, _⟩ := step_parts (P := P) (s := (ta, 0)) (by show 0 < P.ch ta; omega)
       obtain ⟨pb, hpb, _⟩ := step_parts (P := P) (s := (tb, 0)) (by show 0 < P.ch tb; omega)
       have hpa : P.act ta = some pa := hpa
       have hpb : P.act tb = some pb := hpb
       obtain ⟨ka, ra, hka, hra, _, hkam⟩ := X.h.task (t := ta) hlta
       obtain ⟨kb, rb, hkb, hrb, _, hkbm⟩ := X.h.task (t := tb) hltb
       obtain ⟨bl, off, etA, hbl, hcls⟩ := Rd.elem X.h.r.2.1.2.2.1 taskc_len (by have := X.h.lens; omega) hka
       have hclu := hcls
       obtain ⟨bl2, off2, etA2, hbl2, hclv⟩ := Rd.elem X.h.r.2.1.2.2.1 taskc_len (by have := X.h.lens; omega) hkb
       have e99 : bl2 = bl ∧ off2 = off := by rw [etA] at etA2; injection etA2 with h; injection h with h1 h2; exact ⟨h1.symm, h2.symm⟩
       rw [e99.1, e99.2] at hclv
       have hcla := hclu
       have a0 : wr.cell? ⟨bl, off + ta * 11, none⟩ = some (ka.c) := hcla 0 _ rfl
       have a1 : wr.cell? ⟨bl, off + ta * 11 + 1, none⟩ = some (ka.nx) := hcla 1 _ rfl
       have a2 : wr.cell? ⟨bl, off + ta * 11 + 2, none⟩ = some (.int .i64 ka.a.o) := hcla 2 _ rfl
       have a3 : wr.cell? ⟨bl, off + ta * 11 + 3, none⟩ = some (.int .i64 ka.a.l) := hcla 3 _ rfl
       have a4 : wr.cell? ⟨bl, off + ta * 11 + 4, none⟩ = some (.int .i64 ka.a.v) := hcla 4 _ rfl
       have a5 : wr.cell? ⟨bl, off + ta * 11 + 5, none⟩ = some (.int .u32 ka.a.r) := hcla 5 _ rfl
       have a6 : wr.cell? ⟨bl, off + ta * 11 + 6, none⟩ = some (.int .u32 ka.a.f) := hcla 6 _ rfl
       have a7 : wr.cell? ⟨bl, off + ta * 11 + 7, none⟩ = some (.int .i64 ka.a.v2) := hcla 7 _ rfl
       have a8 : wr.cell? ⟨bl, off + ta * 11 + 8, none⟩ = some (.int .u32 ka.a.r2) := hcla 8 _ rfl
       have a9 : wr.cell? ⟨bl, off + ta * 11 + 9, none⟩ = some (.int .u32 ka.a.f2) := hcla 9 _ rfl
       have a10 : wr.cell? ⟨bl, off + ta * 11 + 10, none⟩ = some (.slice ka.A ka.m ka.cp) := hcla 10 _ rfl
       have hclb := hclv
       have b0 : wr.cell? ⟨bl, off + tb * 11, none⟩ = some (kb.c) := hclb 0 _ rfl
       have b1 : wr.cell? ⟨bl, off + tb * 11 + 1, none⟩ = some (kb.nx) := hclb 1 _ rfl
       have b2 : wr.cell? ⟨bl, off + tb * 11 + 2, none⟩ = some (.int .i64 kb.a.o) := hclb 2 _ rfl
       have b3 : wr.cell? ⟨bl, off + tb * 11 + 3, none⟩ = some (.int .i64 kb.a.l) := hclb 3 _ rfl
       have b4 : wr.cell? ⟨bl, off + tb * 11 + 4, none⟩ = some (.int .i64 kb.a.v) := hclb 4 _ rfl
       have b5 : wr.cell? ⟨bl, off + tb * 11 + 5, none⟩ = some (.int .u32 kb.a.r) := hclb 5 _ rfl
       have b6 : wr.cell? ⟨bl, off + tb * 11 + 6, none⟩ = some (.int .u32 kb.a.f) := hclb 6 _ rfl
       have b7 : wr.cell? ⟨bl, off + tb * 11 + 7, none⟩ = some (.int .i64 kb.a.v2) := hclb 7 _ rfl
       have b8 : wr.cell? ⟨bl, off + tb * 11 + 8, none⟩ = some (.int .u32 kb.a.r2) := hclb 8 _ rfl
       have b9 : wr.cell? ⟨bl, off + tb * 11 + 9, none⟩ = some (.int .u32 kb.a.f2) := hclb 9 _ rfl
       have b10 : wr.cell? ⟨bl, off + tb * 11 + 10, none⟩ = some (.slice kb.A kb.m kb.cp) := hclb 10 _ rfl
       have hacta := fun W2 => (held_act X.h hlta hka hpa W2).2
       have hactb := fun W2 => (held_act X.h hltb hkb hpb W2).2
       have ea : ka.a = pa := (held_act X.h hlta hka hpa wr).1
       have eb : kb.a = pb := (held_act X.h hltb hkb hpb wr).1
       have hia : inI pa.l := X.h.al ra (List.mem_of_getElem? hra) pa (act_mem hpa hra)
       have hib : inI pb.l := X.h.al rb (List.mem_of_getElem? hrb) pb (act_mem hpb hrb)
       have hind := fun W2 => ind_all ka.a kb.a W2 (by rw [ea]; exact hia) (by rw [eb]; exact hib)
       have hlen3 : V.ts.length = 3 := X.h.lens.1
       have Hacta := hide hacta
       have Hactb := hide hactb
       have Hind := hide hind
       have Hea := hide ea
       have Heb := hide eb
       have Hpa := hide hpa
       have Hpb := hide hpb
       have Hch9 := Hch
       rw [etA] at c7 Hch9
       have ja : ((ta : Nat) : Int) < 3 := by omega
       have jb : ((tb : Nat) : Int) < 3 := by omega
       have ja0 : (0 : Int) ≤ (ta : Int) := by omega
       have jb0 : (0 : Int) ≤ (tb : Int) := by omega
       have hwa : IntKind.i64.wrap ((ta : Int) + 1 - 1) = (ta : Int) := by rw [show (ta : Int) + 1 - 1 = (ta : Int) by omega]; exact IntWalk.i64_in _ oM
       have hwb : IntKind.i64.wrap ((tb : Int) + 1 - 1) = (tb : Int) := by rw [show (tb : Int) + 1 - 1 = (tb : Int) by omega]; exact IntWalk.i64_in _ oM
       have jla : ((ta : Nat) : Int) < (V.ts.length : Int) := by omega
       have jlb : ((tb : Nat) : Int) < (V.ts.length : Int) := by omega
       clear hlen3; clear e99 hbl2; clear X hka hkb hra hrb hkam hkbm etA etA2 hcls hclu hclv hcla hclb hacta hactb hind ea eb hpa hpb hia hib
       obtain ⟨bi, hbi⟩ : ∃ b, b = indT ka.a kb.a := ⟨_, rfl⟩
       rw [← hbi] at Hind
       have hzl : bl < wr.heap.size := hbl
       go_upto_region 17 with (first
        | (go_at_call 17; with_reducible refine (Hch9.out ta hlta _ (HBr.out _ (by first | with_reducible assumption | exact ab0))).mono ?_; rintro e w5 ⟨rfl, hb5⟩; obtain ⟨hcc5, hff5, hs5⟩ := bC hb5; (try simp at hs5); have hC5 : C < w5.heap.size := oM; have hL5 : bl < w5.heap.size := oM)
        | (go_at_call 17; with_reducible refine (Hch9.out tb hltb _ (HBr.out _ (by first | with_reducible assumption | exact ab0))).mono ?_; rintro e w6 ⟨rfl, hb6⟩; obtain ⟨hcc6, hff6, hs6⟩ := bC hb6; (try simp at hs6); have hC6 : C < w6.heap.size := oM; have hL6 : bl < w6.heap.size := oM))
       go_upto_region 18 with (first
        | (go_at_call 18; with_reducible refine (Hacta.out _).mono ?_; rintro e w7 ⟨rfl, hb7⟩; obtain ⟨hcc7, hff7, hs7⟩ := bC hb7; (try simp at hs7); have hC7 : C < w7.heap.size := oM; have hL7 : bl < w7.heap.size := oM))
       go_upto_region 19 with (first
        | (go_at_call 18; with_reducible refine (Hactb.out _).mono ?_; rintro e w8 ⟨rfl, hb8⟩; obtain ⟨hcc8, hff8, hs8⟩ := bC hb8; (try simp at hs8); have hC8 : C < w8.heap.size := oM; have hL8 : bl < w8.heap.size := oM; have hm8_7 : w7.heap.size < w8.heap.size := oM))
       have Hbi := hide hbi
       clear hbi
       cases bi with
       | false =>
        go_wp2_with (first
         | (go_at_call 19; with_reducible refine (Hind.out _).mono ?_; rintro e w9 ⟨rfl, hb9⟩; have hs9 := hb9.size; (try simp at hs9)))
        first
         | exact ⟨⟨tb + 1, by go_num, by omega, by omega, hide (HBr.out _ ab0)⟩, by simp [intOf]; omega⟩
         | (refine ⟨?_, by simp [intOf]; omega⟩; (repeat apply Exists.intro); refine ⟨?_, rfl⟩; exact ⟨tb + 1, by go_num, by omega, by omega, hide (HBr.out _ ab0)⟩)
       | true =>
        go_upto_region 20 with (first
         | (go_at_call 19; with_reducible refine (Hind.out _).mono ?_; rintro e w9 ⟨rfl, hb9⟩; have hs9 := hb9.size; (try simp at hs9)))
        have hB9 : Below wr.heap.size wr w9 := ab0
        have HB9 := hide (HBr.out _ hB9)
        have X9 := HXb.out _ HB9.out
        have XB9 := hide X9.x
        clear c0 c1 c2 c3 c4 c5 c6 c7 c8 cf
        obtain ⟨d0, d1, d2, d3, d4, d5, d6, d7, d8, df⟩ := box9 XB9.out
        have hC9 : C < w9.heap.size := X9.lt
        have hz9 : wz.heap.size ≤ w9.heap.size := HB9.out.size
        clear X9 hB9 hb5 hb6 hb7 hb8 hb9 hcc5 hcc6 hcc7 hcc8 hff5 hff6 hff7 hff8 HBr hBr Hacta Hactb Hind Hch9 a0 a1 a2 a3 a4 a5 a6 a7 a8 a9 a10 b0 b1 b2 b3 b4 b5 b6 b7 b8 b9 b10
        have hBr : Below w9.heap.size w9 w9 := Below.refl _ _
        go_wp2_with (first
         | (go_at_call 17; refine (Hch.out ta hlta _ (HB9.out.trans (Below.mono (B := w9.heap.size) (by first | with_reducible assumption | exact ab0) hz9))).mono ?_; rintro e w10 ⟨rfl, hb10⟩; have hs10 := hb10.size; (try simp at hs10)))
        go_loopw [105] (fun i wq => ∃ c : Nat, i = .int .i64 c ∧ c ≤ P.ch ta ∧ Hid (Below wz.heap.size wz wq)) (fun i _ => P.ch ta - (intOf i).toNat)
        case atStart => exact ⟨0, rfl, by omega, hide (HB9.out.trans (Below.mono (B := w9.heap.size) ab0 hz9))⟩
        case round =>
         clear HB
         obtain ⟨c, rfl, hc, HB⟩ := hrel
         have hszr := HB.out.size
         by_cases hlc : c < P.ch ta
         ·have g7 : (c : Int) < ((P.ch ta : Nat) : Int) := by omega
          have hcle := Hle.out ta
          have X := HXb.out wr HB.out
          have XB := hide X.x
          obtain ⟨c0, c1, c2, c3, c4, c5, c6, c7, c8, cf⟩ := box9 XB.out
          have hCr : C < wr.heap.size := X.lt
          have hBr : Below wr.heap.size wr wr := Below.refl _ _
          clear X
          go_wp2_with (first
           | (go_at_call 17; refine (Hch.out tb hltb _ (HB.out.trans (Below.mono (B := wr.heap.size) (by first | with_reducible assumption | exact ab0) hszr))).mono ?_; rintro e w11 ⟨rfl, hb11⟩; have hs11 := hb11.size; (try simp at hs11)))
          go_loopw [111] (fun i wq => ∃ d : Nat, i = .int .i64 d ∧ d ≤ P.ch tb ∧ Hid (Below wz.heap.size wz wq)) (fun i _ => P.ch tb - (intOf i).toNat)
          case atStart => exact ⟨0, rfl, by omega, hide (HB.out.trans (Below.mono (B := wr.heap.size) ab0 hszr))⟩
          case round =>
           clear HB hszr
           obtain ⟨d, rfl, hd, HB⟩ := hrel
           have hszr := HB.out.size
           by_cases hld : d < P.ch tb
           ·have g8 : (d : Int) < ((P.ch tb : Nat) : Int) := by omega
            have hdle := Hle.out tb
            -- FOUR
            have X := HXb.out wr HB.out
            have XB := hide X.x
            have hCr : C < wr.heap.size := X.lt
            obtain ⟨e0, e1, e2, e3, e4, e5, e6, e7, e8, ef⟩ := box9 XB.out
            have hBr : Below wr.heap.size wr wr := Below.refl _ _
            have hab : ta ≠ tb := by omega
            have hsz0 : w.heap.size ≤ wr.heap.size := by omega
            have hst1 := fun W (hW : Below wr.heap.size wr W) => held_step (X.h.below hW) oM Hpa.out (c : Int) (WalkArith.wf_i64 oM)
            have Hst1 := hide hst1
            clear hst1 X
            go_upto_region 27 with (first
             | (go_at_call 13; refine (Hst1.out _ (by first | with_reducible assumption | exact ab0)).mono ?_; rintro e w21 ⟨V1, rfl, hHw21, hoffw21, hbw21⟩; have hsw21 := hbw21.size; (try simp at hsw21); have hBw21 : Below wr.heap.size wr w21 := ab0; have HHw21 := hide hHw21; have HBw21 := hide hBw21; clear hHw21 hoffw21 hbw21 hBw21))
            obtain ⟨wI, hwb⟩ : ∃ W : World, W = w21.alloc (.cells #[.slice V1.M.mem.pA V1.M.mem.hs.length V1.M.mem.pc, .slice V1.M.mem.vA V1.M.mem.vs.length V1.M.mem.vc, .slice V1.M.ln.fA V1.M.ln.first.length V1.M.ln.fc, .slice V1.M.ln.lA V1.M.ln.logs.length V1.M.ln.lc, .map V1.M.ln.asks, .slice V1.M.sA V1.M.steps.length V1.M.sc, .int .i64 V1.M.crashes, .slice V1.tA V1.ts.length V1.tc, .slice V1.sA V1.ss.length V1.sc] 40) := ⟨_, rfl⟩
            have hB0 : Below w21.heap.size w21 wI := by rw [hwb]; exact Below.alloc (Below.refl _ _) (Nat.le_refl _) _
            have hswI : wI.heap.size = w21.heap.size + 1 := by rw [hwb]; simp
            have hH : Held w.heap.size n (m + 1) wI V1 (P.nx ta pa c) := HHw21.out.below hB0
            have hb : BoxC w21.heap.size (wol V1) wI := by rw [hwb]; exact BoxC.made w21 #[.slice V1.M.mem.pA V1.M.mem.hs.length V1.M.mem.pc, .slice V1.M.mem.vA V1.M.mem.vs.length V1.M.mem.vc, .slice V1.M.ln.fA V1.M.ln.first.length V1.M.ln.fc, .slice V1.M.ln.lA V1.M.ln.logs.length V1.M.ln.lc, .map V1.M.ln.asks, .slice V1.M.sA V1.M.steps.length V1.M.sc, .int .i64 V1.M.crashes, .slice V1.tA V1.ts.length V1.tc, .slice V1.sA V1.ss.length V1.sc] 40
            have ho : V1.off w21.heap.size := WorldV.off_new HHw21.out.r (Nat.le_refl _)
            have hBb : Below wr.heap.size wr wI := HBw21.out.trans (hB0.mono oM)
            obtain ⟨I1, hbx⟩ : ∃ I, I = w21.heap.size := ⟨_, rfl⟩
            rw [← hbx] at hb ho hswI
            rw [← hwb, ← hbx]
            have hsI1 : wr.heap.size ≤ I1 := by omega
            have HwI := hide hH
            have XI1 := hide hb
            have OI1 := hide ho
            have BwI := hide hBb
            have hlewI : I1 + 1 ≤ wI.heap.size := by omega
            have hgewI : wI.heap.size ≤ I1 + 1 := by omega
            clear e0 e1 e2 e3 e4 e5 e6 e7 e8 ef
            clear hwb hbx hB0 hH hb ho hBb HHw21 HBw21 hsw21 hswI
            have XC := hide (XB.out.below BwI.out)
            obtain ⟨z0, z1, z2, z3, z4, z5, z6, z7, z8, zf⟩ := box9 XI1.out
            have hI1 : I1 < wI.heap.size := by omega
            have hst2 := fun W (hW : Below wI.heap.size wI W) => held_step (HwI.out.below hW) oM (t := tb) (a := pb) (by rw [nx_act hab]; exact Hpb.out) (d : Int) (WalkArith.wf_i64 oM)
            have Hst2 := hide hst2
            have hBr2 : Below wI.heap.size wI wI := Below.refl _ _
            clear hst2 hBr Hst1
            go_upto_region 28 with (first
             | (go_at_call 13; refine (Hst2.out _ (by first | with_reducible assumption | exact ab0)).mono ?_; rintro e w22 ⟨V2, rfl, hHw22, hoffw22, hbw22⟩; have hsw22 := hbw22.size; (try simp at hsw22); have hBw22 : Below wI.heap.size wI w22 := ab0; have HHw22 := hide hHw22; have Hoffw22 := hide hoffw22; have HBw22 := hide hBw22; have XXw22 := hide (XI1.out.below hBw22); clear hHw22 hoffw22 hbw22 hBw22; clear z0 z1 z2 z3 z4 z5 z6 z7 z8 zf; obtain ⟨y0, y1, y2, y3, y4, y5, y6, y7, y8, yf⟩ := box9 XXw22.out))
            obtain ⟨wA, hwb⟩ : ∃ W : World, W = setFrom w22 I1 0 (wol V2) := ⟨_, rfl⟩
            have hswA : wA.heap.size = w22.heap.size := by rw [hwb, setFrom_size]
            have hH : Held w.heap.size n (m + 2) wA V2 ((P.nx ta pa c).nx tb pb d) := by
             rw [hwb]
             exact HHw22.out.fill (Hoffw22.out I1 oM OI1.out) (U := wol V2) XXw22.out.some oM
            have hb : BoxC I1 (wol V2) wA := by rw [hwb]; exact XXw22.out.fill rfl
            have hcA : BoxC C (wol V) wA := by rw [hwb]; exact BoxC.farFrom oM _ _ (XC.out.below HBw22.out)
            have hBA : Below wr.heap.size wr wA := by rw [hwb]; exact below_setFrom oM _ _ (BwI.out.trans (HBw22.out.mono oM))
            simp only [setFrom, wol, Nat.zero_add, Nat.reduceAdd] at hwb
            rw [← hwb]
            have HwA := hide hH
            have YI1 := hide hb
            have hlewA : w22.heap.size ≤ wA.heap.size := by omega
            have hgewA : wA.heap.size ≤ w22.heap.size := by omega
            clear y0 y1 y2 y3 y4 y5 y6 y7 y8 yf
            clear hwb hH hb HHw22 Hoffw22 XXw22 XI1 hswA
            have XA := HXb.out wA (HB.out.trans (hBA.mono hszr))
            have XCA := hide hcA
            have BwA := hide hBA
            have hCA : C < wA.heap.size := XA.lt
            have hI1A : I1 < wA.heap.size := by omega
            obtain ⟨e0, e1, e2, e3, e4, e5, e6, e7, e8, ef⟩ := box9 XCA.out
            have hst3 := fun W (hW : Below wA.heap.size wA W) => held_step (XA.h.below hW) oM Hpb.out (d : Int) (WalkArith.wf_i64 oM)
            have Hst3 := hide hst3
            have hBr : Below wA.heap.size wA wA := Below.refl _ _
            clear hst3 hBr2 Hst2 XA hcA hBA XB XC HwI BwI OI1
            go_upto_region 29 with (first
             | (go_at_call 13; refine (Hst3.out _ (by first | with_reducible assumption | exact ab0)).mono ?_; rintro e w23 ⟨V3, rfl, hHw23, hoffw23, hbw23⟩; have hsw23 := hbw23.size; (try simp at hsw23); have hBw23 : Below wA.heap.size wA w23 := ab0; have HHw23 := hide hHw23; have HBw23 := hide hBw23; clear hHw23 hoffw23 hbw23 hBw23))
            obtain ⟨wK, hwb⟩ : ∃ W : World, W = w23.alloc (.cells #[.slice V3.M.mem.pA V3.M.mem.hs.length V3.M.mem.pc, .slice V3.M.mem.vA V3.M.mem.vs.length V3.M.mem.vc, .slice V3.M.ln.fA V3.M.ln.first.length V3.M.ln.fc, .slice V3.M.ln.lA V3.M.ln.logs.length V3.M.ln.lc, .map V3.M.ln.asks, .slice V3.M.sA V3.M.steps.length V3.M.sc, .int .i64 V3.M.crashes, .slice V3.tA V3.ts.length V3.tc, .slice V3.sA V3.ss.length V3.sc] 40) := ⟨_, rfl⟩
            have hB0 : Below w23.heap.size w23 wK := by rw [hwb]; exact Below.alloc (Below.refl _ _) (Nat.le_refl _) _
            have hswK : wK.heap.size = w23.heap.size + 1 := by rw [hwb]; simp
            have hH : Held w.heap.size n (m + 1) wK V3 (P.nx tb pb d) := HHw23.out.below hB0
            have hb : BoxC w23.heap.size (wol V3) wK := by rw [hwb]; exact BoxC.made w23 #[.slice V3.M.mem.pA V3.M.mem.hs.length V3.M.mem.pc, .slice V3.M.mem.vA V3.M.mem.vs.length V3.M.mem.vc, .slice V3.M.ln.fA V3.M.ln.first.length V3.M.ln.fc, .slice V3.M.ln.lA V3.M.ln.logs.length V3.M.ln.lc, .map V3.M.ln.asks, .slice V3.M.sA V3.M.steps.length V3.M.sc, .int .i64 V3.M.crashes, .slice V3.tA V3.ts.length V3.tc, .slice V3.sA V3.ss.length V3.sc] 40
            have ho : V3.off w23.heap.size := WorldV.off_new HHw23.out.r (Nat.le_refl _)
            have hBb : Below wA.heap.size wA wK := HBw23.out.trans (hB0.mono oM)
            obtain ⟨K1, hbx⟩ : ∃ I, I = w23.heap.size := ⟨_, rfl⟩
            rw [← hbx] at hb ho hswK
            rw [← hwb, ← hbx]
            have hsK1 : wA.heap.size ≤ K1 := by omega
            have HwK := hide hH
            have XK1 := hide hb
            have OK1 := hide ho
            have BwK := hide hBb
            have hlewK : K1 + 1 ≤ wK.heap.size := by omega
            have hgewK : wK.heap.size ≤ K1 + 1 := by omega
            clear e0 e1 e2 e3 e4 e5 e6 e7 e8 ef
            clear hwb hbx hB0 hH hb ho hBb HHw23 HBw23 hsw23 hswK
            have OV2 := hide (WorldV.off_new (C := K1) HwA.out.r oM)
            have HwA' := hide (HwA.out.below BwK.out)
            have YI1' := hide (YI1.out.below BwK.out)
            obtain ⟨z0, z1, z2, z3, z4, z5, z6, z7, z8, zf⟩ := box9 XK1.out
            have hK1 : K1 < wK.heap.size := by omega
            have hst4 := fun W (hW : Below wK.heap.size wK W) => held_step (HwK.out.below hW) oM (t := ta) (a := pa) (by rw [nx_act (Ne.symm hab)]; exact Hpa.out) (c : Int) (WalkArith.wf_i64 oM)
            have Hst4 := hide hst4
            have hBr2 : Below wK.heap.size wK wK := Below.refl _ _
            clear hst4 hBr Hst3 HwA YI1 XCA
            go_upto_region 30 with (first
             | (go_at_call 13; refine (Hst4.out _ (by first | with_reducible assumption | exact ab0)).mono ?_; rintro e w24 ⟨V4, rfl, hHw24, hoffw24, hbw24⟩; have hsw24 := hbw24.size; (try simp at hsw24); have hBw24 : Below wK.heap.size wK w24 := ab0; have HHw24 := hide hHw24; have Hoffw24 := hide hoffw24; have HBw24 := hide hBw24; have XXw24 := hide (XK1.out.below hBw24); clear hHw24 hoffw24 hbw24 hBw24; clear z0 z1 z2 z3 z4 z5 z6 z7 z8 zf; obtain ⟨y0, y1, y2, y3, y4, y5, y6, y7, y8, yf⟩ := box9 XXw24.out))
            obtain ⟨wB, hwb⟩ : ∃ W : World, W = setFrom w24 K1 0 (wol V4) := ⟨_, rfl⟩
            have hswB : wB.heap.size = w24.heap.size := by rw [hwb, setFrom_size]
            have hH : Held w.heap.size n (m + 2) wB V4 ((P.nx tb pb d).nx ta pa c) := by
             rw [hwb]
             exact HHw24.out.fill (Hoffw24.out K1 oM OK1.out) (U := wol V4) XXw24.out.some oM
            have hb : BoxC K1 (wol V4) wB := by rw [hwb]; exact XXw24.out.fill rfl
            have hHI : Held w.heap.size n (m + 2) wB V2 ((P.nx ta pa c).nx tb pb d) := by rw [hwb]; exact (HwA'.out.below HBw24.out).fill OV2.out (U := wol V4) XXw24.out.some oM
            have hbI : BoxC I1 (wol V2) wB := by rw [hwb]; exact BoxC.farFrom oM _ _ (YI1'.out.below HBw24.out)
            have hBB : Below wr.heap.size wr wB := by rw [hwb]; exact below_setFrom oM _ _ (BwA.out.trans ((BwK.out.trans (HBw24.out.mono oM)).mono oM))
            simp only [setFrom, wol, Nat.zero_add, Nat.reduceAdd] at hwb
            rw [← hwb]
            have HwB := hide hH
            have YK1 := hide hb
            have hlewB : w24.heap.size ≤ wB.heap.size := by omega
            have hgewB : wB.heap.size ≤ w24.heap.size := by omega
            clear y0 y1 y2 y3 y4 y5 y6 y7 y8 yf
            clear hwb hH hb HHw24 Hoffw24 XXw24 XK1 hswB
            have hcm := nx_comm P hab pa pb (c : Int) (d : Int) (by rw [← Hea.out, ← Heb.out]; exact Hbi.out.symm)
            rw [← hcm] at HwB
            have YB1 := hide hbI
            have HwI2 := hide hHI
            have BwB := hide hBB
            have hIB : I1 < wB.heap.size := by omega
            have hKB : K1 < wB.heap.size := by omega
            have hk2 := fun W (hW : Below wB.heap.size wB W) => held_key (HwI2.out.below hW) oM
            have hk4 := fun W (hW : Below wB.heap.size wB W) => held_key (HwB.out.below hW) oM
            have ho2 := fun W (hW : Below wB.heap.size wB W) => held_out (HwI2.out.below hW) oM
            have ho4 := fun W (hW : Below wB.heap.size wB W) => held_out (HwB.out.below hW) oM
            have Hk2 := hide hk2
            have Hk4 := hide hk4
            have Ho2 := hide ho2
            have Ho4 := hide ho4
            obtain ⟨p0, p1, p2, p3, p4, p5, p6, p7, p8, pf⟩ := box9 YB1.out
            obtain ⟨q0, q1, q2, q3, q4, q5, q6, q7, q8, qf⟩ := box9 YK1.out
            have hBr : Below wB.heap.size wB wB := Below.refl _ _
            have HBB : Hid (∀ W, Below wB.heap.size wB W → Below wz.heap.size wz W) := hide (fun W hW => HB.out.trans ((hBB.trans (hW.mono oM)).mono hszr))
            clear hcm hbI hHI hBB hk2 hk4 ho2 ho4 hBr2 Hst4 HwK BwK OK1 BwA HwA' YI1'
            go_region_held3 (fun w' => w'.cell? ⟨I1, 0, none⟩ = some (.slice V2.M.mem.pA V2.M.mem.hs.length V2.M.mem.pc) ∧ w'.cell? ⟨I1, 1, none⟩ = some (.slice V2.M.mem.vA V2.M.mem.vs.length V2.M.mem.vc) ∧ w'.cell? ⟨I1, 2, none⟩ = some (.slice V2.M.ln.fA V2.M.ln.first.length V2.M.ln.fc) ∧ w'.cell? ⟨I1, 3, none⟩ = some (.slice V2.M.ln.lA V2.M.ln.logs.length V2.M.ln.lc) ∧ w'.cell? ⟨I1, 4, none⟩ = some (.map V2.M.ln.asks) ∧ w'.cell? ⟨I1, 5, none⟩ = some (.slice V2.M.sA V2.M.steps.length V2.M.sc) ∧ w'.cell? ⟨I1, 6, none⟩ = some (.int .i64 V2.M.crashes) ∧ w'.cell? ⟨I1, 7, none⟩ = some (.slice V2.tA V2.ts.length V2.tc) ∧ w'.cell? ⟨I1, 8, none⟩ = some (.slice V2.sA V2.ss.length V2.sc) ∧ w'.cell? ⟨K1, 0, none⟩ = some (.slice V4.M.mem.pA V4.M.mem.hs.length V4.M.mem.pc) ∧ w'.cell? ⟨K1, 1, none⟩ = some (.slice V4.M.mem.vA V4.M.mem.vs.length V4.M.mem.vc) ∧ w'.cell? ⟨K1, 2, none⟩ = some (.slice V4.M.ln.fA V4.M.ln.first.length V4.M.ln.fc) ∧ w'.cell? ⟨K1, 3, none⟩ = some (.slice V4.M.ln.lA V4.M.ln.logs.length V4.M.ln.lc) ∧ w'.cell? ⟨K1, 4, none⟩ = some (.map V4.M.ln.asks) ∧ w'.cell? ⟨K1, 5, none⟩ = some (.slice V4.M.sA V4.M.steps.length V4.M.sc) ∧ w'.cell? ⟨K1, 6, none⟩ = some (.int .i64 V4.M.crashes) ∧ w'.cell? ⟨K1, 7, none⟩ = some (.slice V4.tA V4.ts.length V4.tc) ∧ w'.cell? ⟨K1, 8, none⟩ = some (.slice V4.sA V4.ss.length V4.sc))
             (first | exact ⟨by go_simp, by go_simp, by go_simp, by go_simp, by go_simp, by go_simp, by go_simp, by go_simp, by go_simp, by go_simp, by go_simp, by go_simp, by go_simp, by go_simp, by go_simp, by go_simp, by go_simp, by go_simp⟩ | go_keep)
             (first
              | (go_at_call 15; with_reducible refine (Hk2.out _ (by first | with_reducible assumption | exact ab0)).mono ?_; rintro e w31 ⟨rfl, hb31'⟩; have hb31 : Below _ _ w31 := (by first | with_reducible exact noDrew hb31' | exact hb31'); clear hb31'; obtain ⟨hcc31, hff31, hs31⟩ := bC hb31; (try simp at hs31); have hI31 : I1 < w31.heap.size := oM; have hK31 : K1 < w31.heap.size := oM)
              | (go_at_call 15; with_reducible refine (Hk4.out _ (by first | with_reducible assumption | exact ab0)).mono ?_; rintro e w32 ⟨rfl, hb32'⟩; have hb32 : Below _ _ w32 := (by first | with_reducible exact noDrew hb32' | exact hb32'); clear hb32'; obtain ⟨hcc32, hff32, hs32⟩ := bC hb32; (try simp at hs32); have hI32 : I1 < w32.heap.size := oM; have hK32 : K1 < w32.heap.size := oM)
              | (go_at_call 14; with_reducible refine (Ho2.out _ (by first | with_reducible assumption | exact ab0)).mono ?_; rintro e w33 ⟨rfl, hb33'⟩; have hb33 : Below _ _ w33 := (by first | with_reducible exact noDrew hb33' | exact hb33'); clear hb33'; obtain ⟨hcc33, hff33, hs33⟩ := bC hb33; (try simp at hs33); have hI33 : I1 < w33.heap.size := oM; have hK33 : K1 < w33.heap.size := oM)
              | (go_at_call 14; with_reducible refine (Ho4.out _ (by first | with_reducible assumption | exact ab0)).mono ?_; rintro e w34 ⟨rfl, hb34'⟩; have hb34 : Below _ _ w34 := (by first | with_reducible exact noDrew hb34' | exact hb34'); clear hb34'; obtain ⟨hcc34, hff34, hs34⟩ := bC hb34; (try simp at hs34); have hI34 : I1 < w34.heap.size := oM; have hK34 : K1 < w34.heap.size := oM))
            all_goals go_wp2
            all_goals exact ⟨⟨d + 1, by go_num, by omega, hide (HBB.out _ (by first | with_reducible assumption | exact ab0))⟩, by simp [intOf]; omega⟩
           ·have g8 : ¬ (d : Int) < ((P.ch tb : Nat) : Int) := by omega
            go_wp2_with fail
            first
             | exact ⟨⟨c + 1, by go_num, by omega, HB⟩, by simp [intOf]; omega⟩
             | (refine ⟨?_, by simp [intOf]; omega⟩; (repeat apply Exists.intro); refine ⟨?_, rfl⟩; exact ⟨c + 1, by go_num, by omega, HB⟩)
         ·have g7 : ¬ (c : Int) < ((P.ch ta : Nat) : Int) := by omega
          go_wp2_with fail
          first
           | exact ⟨⟨tb + 1, by go_num, by omega, by omega, HB⟩, by simp [intOf]; omega⟩
           | (refine ⟨?_, by simp [intOf]; omega⟩; (repeat apply Exists.intro); refine ⟨?_, rfl⟩; exact ⟨tb + 1, by go_num, by omega, by omega, HB⟩)
      ·have g6 : ¬ (tb : Int) + 1 ≤ 3 := by omega
       have g6' : (3 : Int) < (tb : Int) + 1 := by omega
       go_wp2_with fail
       have hfin : Below wz.heap.size wz wr := HB.out
       first
        | exact ⟨⟨ta + 1, by go_num, by omega, HB⟩, by simp [intOf]; omega⟩
        | ((repeat apply Exists.intro); exact ⟨⟨ta + 1, by go_num, by omega, HB⟩, by simp [intOf]; omega⟩)
    ·have g5 : ¬ (ta : Int) + 1 ≤ 3 := by omega
     have hBr := HBw.out _ HB.out
     go_wp2_with (first | (go_at_call 8; refine (awake59_any _ (HTab.out.below (N := w.heap.size) (by first | with_reducible assumption | exact ab0) hg) (by first | omega | (simp; done) | (simp; omega))).mono ?_; rintro e w9 ⟨rfl, hb9⟩))
     go_ret
     exact ⟨rfl, ab0⟩
end Go.Proofs.YtnnmenmifphadaaGreatDoor
namespace Go.Proofs.YtnnmenmifphadaaGreatDoor.lawCo
open Go.ChangeShapes Go.WideShapes Go.ChangeAt Go.RowKit
theorem own : ownKnob Tryz.prog.godebug = none := by kernel_rfl
theorem tabMet {W : World} (h : laidMetH Tryz.prog Rows.exploreCommutesRow.laid W) : Tab W ∧ 0 < W.heap.size := by
 have h1 : laidMet Tryz.prog Rows.exploreCommutesRow.laid W := h
 have ht : Tab W := Lib.tabIs_of_head (g := 0) (rest := []) kR kR Tryz.underlying264 Tryz.underlying162 kR kR (laidMet_drop (laidMet_drop h1))
 refine ⟨ht, ?_⟩
 have q := ht.cell (show Tryz.prog.globalNamed "internal/strconv.uint64pow10" = some 0 by kernel_rfl) 0 dM
 exact cell_lt q
theorem walk : LawWalkL Tryz.prog 5 #[22, 25, 54] Rows.exploreCommutesRow.laid := by
 intro H enc W base args ds p hval hA hlt hL
 obtain ⟨v0, v1, v2, d0, d1, d2, p0, p1, p2, rfl, rfl, rfl, h0, h1, h2⟩ := trodAll_three hA
 obtain ⟨A, n, cap, e0⟩ := okWide_slice Tryz.underlying22 (hval 0 22 v0 rfl rfl)
 obtain ⟨pA, m, pc, e2⟩ := okWide_slice Tryz.underlying54 (hval 2 54 v2 rfl rfl)
 obtain ⟨x, rfl, hx, hxo⟩ := rd_rows59 (hval 1 25 v1 rfl rfl) h1
 subst e0 e2
 obtain ⟨fu0, hf0⟩ := h0
 obtain ⟨fu2, hf2⟩ := h2
 obtain ⟨A', cap', ws, e0, hws, hr⟩ := rd_words59 hf0
 obtain ⟨pA', pc', ps, e2, hpo, hpr⟩ := rd_picks59 hf2
 injection e0 with a1 a2 a3
 injection e2 with b1 b2 b3
 subst a1 a3 b1 b3
 obtain ⟨ht, hg⟩ := tabMet hL
 rw [← a2] at hr
 rw [← b2] at hpr
 by_cases hbad : (∃ k, k < 3 ∧ 4 < (x.l k).length) ∨ 7 < x.tot 3 ∨ n = 0 ∨ 12 < n
 ·exact comm_far A n cap x pA m pc W ht hg hbad
 ·have h4 : ∀ k, k < 3 → (x.l k).length ≤ 4 := fun k hk => by
   rcases Nat.lt_or_ge 4 (x.l k).length with h | h
   ·exact absurd (.inl ⟨k, hk, h⟩) hbad
   ·exact h
  have h5 : ¬ (7 < x.tot 3 ∨ n = 0 ∨ 12 < n) := fun h => hbad (.inr h)
  by_cases hm : m ≤ 12
  ·exact comm_main A n cap ws x pA m pc ps W ht hg a2.symm hr hws hx (fun k a ha => hxo k a ha) h4 oM oM oM hm b2.symm hpo hpr
  ·exact comm_long A n cap ws x pA m pc W ht hg a2.symm hr hx h4 oM oM oM oM
def cellsOfD : DataW Unit → Array Value
 | .agg xs => (xs.map fun | .lit (.int k n) => .int k n | _ => undef).toArray
 | _ => #[]
def layD (d : DataW Unit) : Obj → Obj
 | .cells _ t frozen => .cells (cellsOfD d) t frozen
 | o => o
noncomputable def laidWorld (os : Os) : World :=
 { World.holding Tryz.prog os ⟨#[], #[], []⟩ with heap := (((World.holding Tryz.prog os ⟨#[], #[], []⟩).heap.modify 0 (layD Rows.laid_internal_strconv_uint64pow10)).modify 2 (layD Rows.laid_math_bits_deBruijn32tab)).modify 3 (layD Rows.laid_math_bits_deBruijn64tab) }
theorem laid_met (os : Os) : laidMet Tryz.prog Rows.exploreCommutesRow.laid ((laidWorld os).forCall (fun _ _ => 0) ⟨#[], #[.slice none 0 0, .agg #[.slice none 0 0, .slice none 0 0, .slice none 0 0], .slice none 0 0], []⟩).memory :=
 laidMet_of_run' 8 kR kR
theorem reads (os : Os) {H : Type} (enc : TypeId × Value → H) : ∃ places, DataW.whole enc Tryz.prog ((laidWorld os).forCall (fun _ _ => 0) ⟨#[], #[.slice none 0 0, .agg #[.slice none 0 0, .slice none 0 0, .slice none 0 0], .slice none 0 0], []⟩).memory Tryz.f5.params.toList Rows.exploreCommutesSpec.vars false (#[.slice none 0 0, .agg #[.slice none 0 0, .slice none 0 0, .slice none 0 0], .slice none 0 0] : Array Value).toList 8 = some ([.nil, .agg [.nil, .nil, .nil], .nil], [], places) :=
 ⟨[], by kernel_rfl⟩
theorem lifted (os : Os) (started : os.Started) (H : Type) (enc : TypeId × Value → H) (F : Stop.Interp) :
  ReturnsInHanded {} Tryz.checked os 5 .any ((OpenSpec.ofChange Rows.exploreCommutesSpec).preRow enc Tryz.prog Tryz.f5 Rows.exploreCommutesRow.domain false Rows.exploreCommutesRow.laid) (((OpenSpec.ofChange Rows.exploreCommutesSpec).at F).post enc Tryz.prog Tryz.f5 false true false false) := by
 obtain ⟨places, hx⟩ := reads os enc
 refine returnsInHanded_of_row (C := Tryz.checked) (s := OpenSpec.ofChange Rows.exploreCommutesSpec) own started kR Tryz.func5
  (witness_row_at (enc := enc) (C := Tryz.checked) false (laidWorld os) #[.slice none 0 0, .agg #[.slice none 0 0, .slice none 0 0, .slice none 0 0], .slice none 0 0] rfl kR kR kR
   (OpenSpec.preRow_of_cond 8 hx kR (fun k hk => by cases hk) kR (laid_met os))) ?_
 intro W base args ds gs before hval hW _ _ _ hL _ _
 exact law_contract (s := Rows.exploreCommutesSpec) kR kR Tryz.underlying4 kR ⟨rfl, fun H ds h => by match ds, h with | [d1, d2, d3], _ => exact ⟨rfl, rfl, rfl⟩⟩ (by rw [Tryz.params5]; exact walk) W base args ds gs before hval hW hL
theorem over : Rows.exploreCommutesRow.holds Tryz.pinned (OpenSpec.ofChange Rows.exploreCommutesSpec) :=
 OpenClaim.holds_of_cond 5 Tryz.f5 rfl rfl rfl rfl rfl rfl rfl ⟨rfl, rfl, rfl, rfl, rfl⟩ rfl rfl rfl rfl rfl kR Tryz.func5 kR
  (of_decide_eq_true kR) (by unfold Func.isWrapper; first | (rw [if_pos (by decide +kernel)]; kernel_rfl) | (rw [if_neg (by decide +kernel)]; exact ⟨rfl, rfl⟩))
  (fun os started H enc _ F => by rw [OpenClaim.pre_eq_preRow]; exact lifted os started H enc F)
theorem plainLaw (f : FuncId) (fn : Func) (hf : Tryz.pinned.checked.prog.funcNamed "simulcast/simulcastlaw59.ExploreCommutes" = some f) (hfn : Tryz.pinned.checked.prog.funcs[f]? = some fn) :
  true = Tryz.pinned.checked.prog.looks [] ∧ ∀ (j : Nat) t, fn.params[j]? = some t → Tryz.pinned.checked.prog.wantsStandIn t = false := by
 obtain rfl : f = 5 := Option.some.inj ((show Tryz.prog.funcNamed "simulcast/simulcastlaw59.ExploreCommutes" = some 5 by kernel_rfl).symm.trans hf) |>.symm
 obtain rfl : fn = Tryz.f5 := (Option.some.inj (Tryz.func5.symm.trans hfn)).symm
 refine ⟨by kernel_rfl, fun j t ht => ?_⟩
 rw [Tryz.params5] at ht
 have hm := Array.mem_of_getElem? ht
 have hall : ∀ t ∈ (#[22, 25, 54] : Array TypeId), Tryz.prog.wantsStandIn t = false := by
  intro t h
  simp only [List.mem_toArray, List.mem_cons, List.not_mem_nil, or_false] at h
  rcases h with rfl | rfl | rfl
  all_goals kernel_rfl
 exact hall t hm
theorem card : Rows.ExploreCommutesCardSaid :=
 Claim7.holds_tied_plain_at .later [] _ _ _ _ over (fun _ h => by cases h) kR (fun _ h => by cases h) exploreCommutes_row_tie rfl ⟨rfl, rfl⟩ kR rfl plainLaw kR
theorem proved : Rows.ExploreCommutesCardSaid := card
end Go.Proofs.YtnnmenmifphadaaGreatDoor.lawCo
