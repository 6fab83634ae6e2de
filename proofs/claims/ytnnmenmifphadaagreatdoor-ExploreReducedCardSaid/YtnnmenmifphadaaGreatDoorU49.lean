/- Law 59: words, rows of acts and picks as they come in. -/
import Derived.Test.YtnnmenmifphadaaGreatDoorCards
import Derived.Test.YtnnmenmifphadaaGreatDoorTie
import Derived.Test.YtnnmenmifphadaaGreatDoorU03
import Derived.Test.YtnnmenmifphadaaGreatDoorU07
import Derived.Test.YtnnmenmifphadaaGreatDoorU48
set_option linter.unusedSimpArgs false
set_option linter.unusedVariables false
set_option maxRecDepth 100000
set_option maxHeartbeats 40000000
namespace Go.Proofs.YtnnmenmifphadaaGreatDoor
open Go.ChangeShapes Go.WideShapes Go.ChangeAt Go.RowKit Go.Deep
def AS.okA (a : AS) : Prop := (actP a).new.okW ∧ inI a.l
theorem inI_of {z : Int} (h : (Lit.int .i64 z).wf = true) : inI z := by
 simp [Lit.wf, IntKind.min, IntKind.max, IntKind.signed, IntKind.bits] at h
 exact h
theorem u32_of {z : Int} (h : (Lit.int .u32 z).wf = true) : 0 ≤ z ∧ z ≤ 4294967295 := by
 simp [Lit.wf, IntKind.min, IntKind.max, IntKind.signed, IntKind.bits] at h
 omega
section
variable {H : Type} {enc : TypeId × Value → H} {w : World} {base : Nat} {spare : Nat → Bool} {held : Bool}
theorem okW_of {v r f : Int} (h1 : (Lit.int .i64 v).wf = true) (h2 : (Lit.int .u32 r).wf = true) (h3 : (Lit.int .u32 f).wf = true) : (W3.mk v r f).okW := ⟨inI_of h1, u32_of h2, u32_of h3⟩
theorem rd_words59 {u : Value} {y : DataW H × List MemPlace} {fuel : Nat} (hf : DataW.trod enc Tryz.prog w base spare held fuel 22 [u] = some y) :
  ∃ (A : Option Addr) (cap : Nat) (l : List W3), u = .slice A l.length cap ∧ (∀ x ∈ l, x.okW) ∧ Rd w w.heap.size 3 A l.length (l.flatMap w3c) := by
 obtain ⟨A, n, cap, xs, rfl, -, hm, hr, hx⟩ := rd_cells_c Tryz.underlying22 (C := 3) kR dM hf
 obtain ⟨l, rfl, hok, rfl⟩ := told_good 3 w3c (fun _ => rfl) W3.okW n xs hr.1 (fun i hi => by
  obtain ⟨m, cs, y, hl, hj, ht⟩ := hx i hi
  obtain ⟨m', hf⟩ := fields_of Tryz.underlying66 kR hl ht
  obtain ⟨u0, y0, e0, t0⟩ := hf 0 _ rfl
  obtain ⟨u1, y1, e1, t1⟩ := hf 1 _ rfl
  obtain ⟨u2, y2, e2, t2⟩ := hf 2 _ rfl
  obtain ⟨z0, rfl, w0⟩ := int_of Tryz.underlying2 t0
  obtain ⟨z1, rfl, w1⟩ := int_of Tryz.underlying64 t1
  obtain ⟨z2, rfl, w2⟩ := int_of Tryz.underlying64 t2
  exact ⟨⟨z0, z1, z2⟩, okW_of w0 w1 w2, fun j hjl => by
   rw [hj j hjl]
   match j, hjl with
   | 0, _ => exact e0
   | 1, _ => exact e1
   | 2, _ => exact e2⟩)
 exact ⟨A, cap, l, rfl, hok, hr⟩
theorem rd_act59 {m : Nat} {cs : List Value} {y : DataW H × List MemPlace} (hl : cs.length = 8) (hf : DataW.trod enc Tryz.prog w base spare held m 68 cs = some y) : ∃ a : AS, a.okA ∧ cs = actc a := by
 match cs, hl with
 | [c0, c1, c2, c3, c4, c5, c6, c7], _ =>
  have c0' : Tryz.prog.cellsOf 3 = 1 := by kernel_rfl
  have c1' : Tryz.prog.cellsOf 63 = 1 := by kernel_rfl
  have c2' : Tryz.prog.cellsOf 66 = 3 := by kernel_rfl
  obtain ⟨ys, n', -, -, -, hyl, hf'⟩ := DataW.trod_struct Tryz.underlying68 hf
  match ys, hyl with
  | [y0, y1, y2, y3], _ =>
  have k0 : DataW.trod enc Tryz.prog w base spare held n' 3 [c0] = some y0 := by simpa [c0'] using hf' 0 ⟨"Op", 3, 0, false, "", "", 0⟩ rfl
  have k1 : DataW.trod enc Tryz.prog w base spare held n' 63 [c1] = some y1 := by simpa [c1'] using hf' 1 ⟨"At", 63, 1, false, "", "", 8⟩ rfl
  have k2 : DataW.trod enc Tryz.prog w base spare held n' 66 [c2, c3, c4] = some y2 := by simpa [c2'] using hf' 2 ⟨"Old", 66, 2, false, "", "", 16⟩ rfl
  have k3 : DataW.trod enc Tryz.prog w base spare held n' 66 [c5, c6, c7] = some y3 := by simpa [c2'] using hf' 3 ⟨"New", 66, 5, false, "", "", 32⟩ rfl
  obtain ⟨z0, rfl, w0⟩ := int_of Tryz.underlying3 k0
  obtain ⟨z1, rfl, w1⟩ := int_of Tryz.underlying63 k1
  obtain ⟨m2, g2⟩ := fields_of (cs := [c2, c3, c4]) Tryz.underlying66 kR rfl k2
  obtain ⟨m3, g3⟩ := fields_of (cs := [c5, c6, c7]) Tryz.underlying66 kR rfl k3
  obtain ⟨u0, y0, e0, t0⟩ := g2 0 _ rfl
  obtain ⟨u1, y1, e1, t1⟩ := g2 1 _ rfl
  obtain ⟨u2, y2, e2, t2⟩ := g2 2 _ rfl
  obtain ⟨u3, y3, e3, t3⟩ := g3 0 _ rfl
  obtain ⟨u4, y4, e4, t4⟩ := g3 1 _ rfl
  obtain ⟨u5, y5, e5, t5⟩ := g3 2 _ rfl
  injection e0 with e0; subst e0
  injection e1 with e1; subst e1
  injection e2 with e2; subst e2
  injection e3 with e3; subst e3
  injection e4 with e4; subst e4
  injection e5 with e5; subst e5
  obtain ⟨z2, rfl, w2⟩ := int_of Tryz.underlying2 t0
  obtain ⟨z3, rfl, w3⟩ := int_of Tryz.underlying64 t1
  obtain ⟨z4, rfl, w4⟩ := int_of Tryz.underlying64 t2
  obtain ⟨z5, rfl, w5⟩ := int_of Tryz.underlying2 t3
  obtain ⟨z6, rfl, w6⟩ := int_of Tryz.underlying64 t4
  obtain ⟨z7, rfl, w7⟩ := int_of Tryz.underlying64 t5
  exact ⟨⟨z0, z1, z2, z3, z4, z5, z6, z7⟩, ⟨okW_of w5 w6 w7, inI_of w1⟩, rfl⟩
theorem rd_row59 {u : Value} {y : DataW H × List MemPlace} {fuel : Nat} (hf : DataW.trod enc Tryz.prog w base spare held fuel 23 [u] = some y) :
  ∃ (A : Option Addr) (cap : Nat) (l : List AS), u = .slice A l.length cap ∧ (∀ x ∈ l, x.okA) ∧ Rd w w.heap.size 8 A l.length (l.flatMap actc) := by
 obtain ⟨A, n, cap, xs, rfl, -, hm, hr, hx⟩ := rd_cells_c Tryz.underlying23 (C := 8) kR dM hf
 obtain ⟨l, rfl, hok, rfl⟩ := told_good 8 actc (fun _ => rfl) AS.okA n xs hr.1 (fun i hi => by
  obtain ⟨m, cs, y, hl, hj, ht⟩ := hx i hi
  obtain ⟨a, ha, rfl⟩ := rd_act59 hl ht
  exact ⟨a, ha, hj⟩)
 exact ⟨A, cap, l, rfl, hok, hr⟩
theorem rd_rows59 {v : Value} {d : DataW H} {p : List MemPlace} {r : Reach} {b0 : Nat} (hv : Value.okWide Tryz.prog w r b0 25 v) (h : DataW.Trod enc Tryz.prog w base spare held 25 v d p) :
  ∃ x : ActsV, v = .agg #[x.sl 0, x.sl 1, x.sl 2] ∧ x.R w w.heap.size ∧ ∀ k, ∀ a ∈ x.l k, a.okA := by
 have ht := Tryz.underlying25
 have hc3 : Tryz.prog.cellsOf 25 = 3 := by kernel_rfl
 simp only [Value.okWide, ht] at hv
 obtain ⟨cs, rfl, hsz, _⟩ := hv
 rw [hc3] at hsz
 obtain ⟨cs⟩ := cs
 match cs, hsz with
 | [c0, c1, c2], _ =>
  obtain ⟨fuel, hf⟩ := h
  obtain ⟨y0, y1, y2, m, _, hy0, hy1, hy2⟩ := trod_array3 ht kR (c0 := c0) (c1 := c1) (c2 := c2) hf
  obtain ⟨A0, p0, l0, rfl, o0, r0⟩ := rd_row59 hy0
  obtain ⟨A1, p1, l1, rfl, o1, r1⟩ := rd_row59 hy1
  obtain ⟨A2, p2, l2, rfl, o2, r2⟩ := rd_row59 hy2
  refine ⟨⟨fun k => if k = 0 then A0 else if k = 1 then A1 else A2, fun k => if k = 0 then p0 else if k = 1 then p1 else p2, fun k => if k = 0 then l0 else if k = 1 then l1 else l2⟩, rfl, fun k hk => ?_, fun k => ?_⟩
  ·have h3 : k = 0 ∨ k = 1 ∨ k = 2 := by omega
   rcases h3 with rfl | rfl | rfl
   ·exact r0
   ·exact r1
   ·exact r2
  ·show ∀ a ∈ (if k = 0 then l0 else if k = 1 then l1 else l2), a.okA
   split
   ·exact o0
   ·split
    ·exact o1
    ·exact o2
end
theorem laidMet_drop {P : Program} {x : String × DataW Unit} {r : List (String × DataW Unit)} {w : World} (h : laidMet P (x :: r) w) : laidMet P r w := by
 obtain ⟨ps, h1, h2, h3⟩ := h
 obtain ⟨n, d⟩ := x
 obtain ⟨g, t, cs, fuel, p, q, _, _, _, _, hq, rfl⟩ := h1
 exact ⟨q, hq, (List.nodup_append.1 h2).2.1, fun b off hb => h3 b off (List.mem_append_right _ hb)⟩
end Go.Proofs.YtnnmenmifphadaaGreatDoor
namespace Go.Proofs.YtnnmenmifphadaaGreatDoor
open Go.RowKit Go.Maps Go.Sort
theorem Held.grownB {B0 L n b : Nat} {W W' : World} {V : WorldV} {P : PW} (h : Held B0 L n W V P) (hb : V.off b) (hB : B0 ≤ b) (hs : StrM b W) (hg : W.grownBy W' (some b)) : Held B0 L n W' V P := by
 have hB0 : Below B0 W W' := below_of_grownBy hg hB h.b
 have hL := h.l
 have hln := h.lens
 exact ⟨h.r.grown oM hb.1.2.2.2 hs hg, h.s, h.i, fun r hr => (h.rows r hr).below hB0, h.t.below hB0 h.g, Nat.le_trans h.b hg.size, h.g, h.l, h.al⟩
theorem grownBy_setFrom (B : Nat) : ∀ (l : List Value) (k : Nat) (W : World), W.grownBy (setFrom W B k l) (some B)
 | [], _, W => World.grownBy.refl W _
 | x :: l, k, W => World.grownBy.trans (b := W.setCell ⟨B, k, none⟩ x) ⟨rfl, rfl, rfl, (KeepsWalks.setCell W _ x).size, fun j _ hj => Below.heap_setCell _ _ _ j (fun e => hj (by rw [e]))⟩ (grownBy_setFrom B l (k + 1) _)
end Go.Proofs.YtnnmenmifphadaaGreatDoor
