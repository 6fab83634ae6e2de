/- The law's memory opened. -/
import Derived.Test.YtapjfhbonfehpaaGreatDoorV09
import Derived.Test.YtapjfhbonfehpaaGreatDoorV25
set_option linter.unusedSimpArgs false
set_option linter.unusedVariables false
set_option maxRecDepth 100000
set_option maxHeartbeats 40000000
namespace Go.Proofs.YtapjfhbonfehpaaGreatDoor
open Go.ChangeShapes Go.WideShapes Go.ChangeAt Go.RowKit Go.Deep
section
variable {H : Type} {enc : TypeId × Value → H} {w : World} {base : Nat} {spare : Nat → Bool} {held : Bool}
theorem tG {u : Value} {y : DataW H × List MemPlace} {fuel : Nat} (hf : DataW.trod enc Tryz.prog w base spare held fuel 25 [u] = some y) :
  ∃ (A : Option Addr) (cap : Nat) (l : List W3), u = .slice A l.length cap ∧ l.length ≤ maxLen ∧ (∀ x ∈ l, x.ok) ∧ Rd w w.heap.size 3 A l.length (l.flatMap ig) := by
 obtain ⟨A, n, cap, xs, rfl, -, hm, hr, hx⟩ := jC Tryz.underlying25 (C := 3) kR dM hf;obtain ⟨l, rfl, hok, rfl⟩ := mU 3 ig (fun _ => rfl) W3.ok n xs hr.1 (fun i hi => by
  obtain ⟨m, cs, y, hl, hj, ht⟩ := hx i hi;obtain ⟨m', hf⟩ := fields_of Tryz.underlying56 kR hl ht;obtain ⟨u0, y0, e0, t0⟩ := hf 0 _ rfl;obtain ⟨u1, y1, e1, t1⟩ := hf 1 _ rfl;obtain ⟨u2, y2, e2, t2⟩ := hf 2 _ rfl;obtain ⟨z0, rfl, w0⟩ := iy Tryz.underlying2 t0;obtain ⟨z1, rfl, w1⟩ := iy Tryz.underlying54 t1;obtain ⟨z2, rfl, w2⟩ := iy Tryz.underlying54 t2;have b0 := bounds_i64 w0;have b1 := bounds_u32 w1;have b2 := bounds_u32 w2;exact ⟨⟨z0, z1, z2⟩, ⟨b0.1, b0.2, b1.1, by show z1 < 4294967296; omega, b2.1, by show z2 < 4294967296; omega⟩, fun j hjl => by
   rw [hj j hjl]
   match j, hjl with
   | 0, _ => exact e0
   | 1, _ => exact e1
   | 2, _ => exact e2⟩)
 exact ⟨A, cap, l, rfl, hm, hok, hr⟩
theorem GR {u : Value} {y : DataW H × List MemPlace} {fuel : Nat} (hf : DataW.trod enc Tryz.prog w base spare held fuel 23 [u] = some y) :
  ∃ (A : Option Addr) (cap : Nat) (l : List Ce), u = .slice A l.length cap ∧ l.length ≤ maxLen ∧ (∀ x ∈ l, x.ok) ∧ Rd w w.heap.size 4 A l.length (l.flatMap cec) := by
 obtain ⟨A, n, cap, xs, rfl, -, hm, hr, hx⟩ := jC Tryz.underlying23 (C := 4) kR dM hf;obtain ⟨l, rfl, hok, rfl⟩ := mU 4 cec (fun _ => rfl) Ce.ok n xs hr.1 (fun i hi => by
  obtain ⟨m, cs, y, hl, hj, ht⟩ := hx i hi;obtain ⟨m', hf⟩ := fields_of Tryz.underlying63 kR hl ht;obtain ⟨u0, y0, e0, t0⟩ := hf 0 _ rfl;obtain ⟨u1, y1, e1, t1⟩ := hf 1 _ rfl;obtain ⟨u2, y2, e2, t2⟩ := hf 2 _ rfl;obtain ⟨u3, y3, e3, t3⟩ := hf 3 _ rfl;obtain ⟨z0, rfl, w0⟩ := iy Tryz.underlying2 t0;obtain ⟨z1, rfl, w1⟩ := iy Tryz.underlying5 t1;obtain ⟨z2, rfl, w2⟩ := iy Tryz.underlying5 t2;obtain ⟨z3, rfl, w3⟩ := iy Tryz.underlying29 t3;have b0 := bounds_i64 w0;have b1 := bounds_u8 w1;have b2 := bounds_u8 w2;have b3 := bounds_u16 w3;exact ⟨⟨z0, z1, z2, z3⟩, ⟨⟨b0.1, b0.2⟩, ⟨b1.1, by show z1 < 256; omega⟩, ⟨b2.1, by show z2 < 256; omega⟩, ⟨b3.1, by show z3 < 65536; omega⟩⟩, fun j hjl => by
   rw [hj j hjl]
   match j, hjl with
   | 0, _ => exact e0
   | 1, _ => exact e1
   | 2, _ => exact e2
   | 3, _ => exact e3⟩)
 exact ⟨A, cap, l, rfl, hm, hok, hr⟩
theorem EB {u : Value} {y : DataW H × List MemPlace} {fuel : Nat} (hf : DataW.trod enc Tryz.prog w base spare held fuel 24 [u] = some y) :
  ∃ (A : Option Addr) (cap : Nat) (l : List (Int × Int × Int)), u = .slice A l.length cap ∧ l.length ≤ maxLen ∧ (∀ r ∈ l, gw r.1 ∧ gw r.2.1 ∧ gw r.2.2) ∧ Rd w w.heap.size 3 A l.length (l.flatMap NF) := by
 obtain ⟨A, n, cap, xs, rfl, -, hm, hr, hx⟩ := jC Tryz.underlying24 (C := 3) kR dM hf;obtain ⟨l, rfl, hok, rfl⟩ := mU 3 NF (fun _ => rfl) (fun r : Int × Int × Int => gw r.1 ∧ gw r.2.1 ∧ gw r.2.2) n xs hr.1 (fun i hi => by
  obtain ⟨m, cs, y, hl, hj, ht⟩ := hx i hi
  match cs, hl, hj, ht with
  | [c0, c1, c2], _, hj, ht =>
   obtain ⟨y0, y1, y2, m', _, t0, t1, t2⟩ := trod_array3 Tryz.underlying65 kR ht;obtain ⟨z0, rfl, w0⟩ := iy Tryz.underlying2 t0;obtain ⟨z1, rfl, w1⟩ := iy Tryz.underlying2 t1;obtain ⟨z2, rfl, w2⟩ := iy Tryz.underlying2 t2;exact ⟨(z0, z1, z2), ⟨bounds_i64 w0, bounds_i64 w1, bounds_i64 w2⟩, hj⟩)
 exact ⟨A, cap, l, rfl, hm, hok, hr⟩
theorem GN {u : Value} {y : DataW H × List MemPlace} {fuel : Nat} (hf : DataW.trod enc Tryz.prog w base spare held fuel 22 [u] = some y) :
  ∃ (A : Option Addr) (cap : Nat) (l : List Sl), u = .slice A l.length cap ∧ l.length ≤ maxLen ∧ (∀ s ∈ l, s.ok) ∧ AZ w w.heap.size A l := by
 obtain ⟨A, n, cap, xs, rfl, -, hm, hr, hx⟩ := jC Tryz.underlying22 (C := 6) kR dM hf;have each : ∀ i, i < n → ∃ s : Sl, s.ok ∧ ∃ cs, Mv w w.heap.size cs s ∧ ∀ j, j < 6 → xs[i * 6 + j]? = cs[j]? := fun i hi => by
  obtain ⟨m, cs, y, hl, hj, ht⟩ := hx i hi;obtain ⟨m', hf⟩ := fields_of Tryz.underlying46 kR hl ht;obtain ⟨u0, y0, e0, t0⟩ := hf 0 _ rfl;obtain ⟨u1, y1, e1, t1⟩ := hf 1 _ rfl;obtain ⟨u2, y2, e2, t2⟩ := hf 2 _ rfl;obtain ⟨u3, y3, e3, t3⟩ := hf 3 _ rfl;obtain ⟨u4, y4, e4, t4⟩ := hf 4 _ rfl;obtain ⟨u5, y5, e5, t5⟩ := hf 5 _ rfl;obtain ⟨z0, rfl, w0⟩ := iy Tryz.underlying5 t0;obtain ⟨z1, rfl, w1⟩ := iy Tryz.underlying29 t1;obtain ⟨Aa, na, ca, za, rfl, ma, rfl, ra, wa⟩ := qB Tryz.underlying43 Tryz.underlying5 kR t2;obtain ⟨Ao, co, lo, rfl, mo, oko, ro⟩ := tG t3;obtain ⟨An, nn, cn, zn, rfl, mn, rfl, rn, wn⟩ := qB Tryz.underlying44 Tryz.underlying2 kR t4;obtain ⟨b, rfl⟩ := Mf Tryz.underlying4 t5;have b0 := bounds_u8 w0;have b1 := bounds_u16 w1;refine ⟨⟨z0, z1, za, lo, zn, b⟩, ⟨⟨b0.1, by show z0 < 256; omega⟩, ⟨b1.1, by show z1 < 65536; omega⟩, fun a ha => ?_, oko, fun v hv => bounds_i64 (wn v hv), ma, mo, mn⟩, [.int .u8 z0, .int .u16 z1, .slice Aa za.length ca, .slice Ao lo.length co, .slice An zn.length cn, .bool b], ⟨Aa, ca, Ao, co, An, cn, rfl, ra, ro, rn⟩, fun j hjl => ?_⟩
  ·have := bounds_u8 (wa a ha);exact ⟨this.1, by omega⟩
  ·rw [hj j hjl]
   match j, hjl with
   | 0, _ => exact e0
   | 1, _ => exact e1
   | 2, _ => exact e2
   | 3, _ => exact e3
   | 4, _ => exact e4
   | 5, _ => exact e5
 have pick : ∀ k, k ≤ n → ∃ l : List Sl, l.length = k ∧ (∀ s ∈ l, s.ok) ∧ ∀ i s, l[i]? = some s → ∃ cs, Mv w w.heap.size cs s ∧ ∀ j, j < 6 → xs[i * 6 + j]? = cs[j]? := by
  intro k
  induction k with
  | zero => exact fun _ => ⟨[], rfl, fun s hs => absurd hs sM, fun i s hs => by simp at hs⟩
  | succ k ih =>
   intro hk;obtain ⟨l, hl, hok, hs⟩ := ih oM;obtain ⟨s, sok, hc⟩ := each k oM;refine ⟨l ++ [s], by simp [hl], fun s' hs' => ?_, fun i s' hi => ?_⟩
   ·rcases List.mem_append.1 hs' with h | h
    ·exact hok _ h
    ·rw [List.mem_singleton.1 h]; exact sok
   ·rw [List.getElem?_append] at hi;split at hi
    ·exact hs i s' hi
    ·rename_i hge;obtain rfl : i = k := by
      have := (List.getElem?_eq_some_iff.1 hi).1;simp at this;omega
     rw [hl, Nat.sub_self] at hi;injection hi with hi
     exact hi ▸ hc
 obtain ⟨l, rfl, hok, hs⟩ := pick n (Nat.le_refl _);refine ⟨A, cap, l, rfl, hm, hok, fun i s his => ?_⟩;have hin := (List.getElem?_eq_some_iff.1 his).1;obtain ⟨b, off, e, hb, hat⟩ := hr.2 oM;obtain ⟨cs, hc, hj⟩ := hs i s his;refine ⟨b, off, e, hb, cs, hc, fun j u hu => ?_⟩;have OC : j < 6 := by
  obtain ⟨_, _, _, _, _, _, ecs, _⟩ := hc;have := (List.getElem?_eq_some_iff.1 hu).1;rw [ecs] at this;simpa using this
 have := hat (i * 6 + j) u ((hj j OC).trans hu);rw [← Nat.add_assoc] at this;exact this
theorem NI {v : Value} {d : DataW H} {p : List MemPlace} {r : Reach} {b0 : Nat} (hv : Value.okWide Tryz.prog w r b0 28 v) (h : DataW.Trod enc Tryz.prog w base spare held 28 v d p) :
  ∃ m : bO, v = m.val ∧ m.In w w.heap.size ∧ m.ok := by
 obtain ⟨cs, rfl, hsz⟩ := okWide_struct Tryz.underlying28 hv;rw [show Tryz.prog.cellsOf 28 = 5 by kernel_rfl] at hsz;obtain ⟨cs⟩ := cs
 match cs, hsz with
 | [c0, c1, c2, c3, c4], _ =>
  obtain ⟨fuel, hf⟩ := h;obtain ⟨m', hf⟩ := fields_of Tryz.underlying28 kR rfl hf;obtain ⟨u0, y0, e0, t0⟩ := hf 0 _ rfl;obtain ⟨u1, y1, e1, t1⟩ := hf 1 _ rfl;obtain ⟨u2, y2, e2, t2⟩ := hf 2 _ rfl;obtain ⟨u3, y3, e3, t3⟩ := hf 3 _ rfl;obtain ⟨u4, y4, e4, t4⟩ := hf 4 _ rfl;injection e0 with e0; subst e0
  injection e1 with e1; subst e1
  injection e2 with e2; subst e2
  injection e3 with e3; subst e3
  injection e4 with e4; subst e4
  obtain ⟨As, cs, ls, rfl, ms, oks, rs⟩ := GN t0;obtain ⟨Ac, cc, lc, rfl, mc, okc, rc⟩ := GR t1;obtain ⟨Ar, cr, lr, rfl, mr, okr, rr⟩ := EB t2;obtain ⟨Ao, co, lo, rfl, mo, oko, ro⟩ := tG t3;obtain ⟨Aa, na, ca, za, rfl, ma, rfl, ra, wa⟩ := qB Tryz.underlying26 Tryz.underlying29 kR t4;exact ⟨⟨As, cs, ls, Ac, cc, lc, Ar, cr, lr, Ao, co, lo, Aa, ca, za⟩, rfl, ⟨rs, rc, rr, ro, ra⟩, ⟨oks, okc, okr, oko, fun a ha => by
   have := bounds_u16 (wa a ha);exact ⟨this.1, by omega⟩, ms, mc, mr, mo, ma⟩⟩
end
theorem Mv.more {w : World} {B B' : Nat} {cs : List Value} {s : Sl} (h : Mv w B cs s) (hB : B ≤ B') : Mv w B' cs s := by
 obtain ⟨Aa, ca, Ao, co, An, cn, e, h1, h2, h3⟩ := h;exact ⟨Aa, ca, Ao, co, An, cn, e, h1.more hB, h2.more hB, h3.more hB⟩
theorem AZ.more {w : World} {B B' : Nat} {A : Option Addr} {l : List Sl} (h : AZ w B A l) (hB : B ≤ B') : AZ w B' A l := fun i s hs => by
 obtain ⟨b, off, e, hb, cs, hc, hj⟩ := h i s hs;exact ⟨b, off, e, Nat.lt_of_lt_of_le hb hB, cs, hc.more hB, hj⟩
theorem bO.In.more {m : bO} {w : World} {B B' : Nat} (h : m.In w B) (hB : B ≤ B') : m.In w B' := ⟨h.1.more hB, h.2.1.more hB, h.2.2.1.more hB, h.2.2.2.1.more hB, h.2.2.2.2.more hB⟩
end Go.Proofs.YtapjfhbonfehpaaGreatDoor
