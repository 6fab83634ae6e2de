/- Package machine: write, at a Store or a Release. -/
import Derived.Test.YtnnmenmifphadaaGreatDoorU28
set_option linter.unusedSimpArgs false
set_option linter.unusedVariables false
set_option maxRecDepth 100000
set_option maxHeartbeats 40000000
namespace Go.Proofs.YtnnmenmifphadaaGreatDoor
open Go.RowKit Go.Maps
theorem abD1 {p : Prop} (h : p := by
 go_upto_region 5 with (first
  | (go_at_call 138; refine (Hsw.out _ (HR.out.1.below ab0)).mono ?_; rintro e w1 ⟨g9, pc', g7, cap', G, v', vt, rfl, hg9, hg7, hG, hm1, hb1⟩; (try simp at hg9); (try simp at hg7); (try simp at hG); obtain ⟨hcc1, hff1, hs1⟩ := bC hb1; (try simp at hs1); have hz0 : w.heap.size < w1.heap.size := oM; have hz1 : w.heap.size + 1 < w1.heap.size := oM; have hz2 : w.heap.size + 1 + 1 < w1.heap.size := oM; have hz3 : w.heap.size + 1 + 1 + 1 < w1.heap.size := oM; have hz4 : w.heap.size + 1 + 1 + 1 + 1 < w1.heap.size := oM; have Hm1 := hide hm1; clear hm1))
 have ob0 : w1.cell? ⟨w.heap.size, 0, none⟩ = some (.slice m.mem.pA m.mem.hs.length m.mem.pc) := by go_simp
 have ob1 : w1.cell? ⟨w.heap.size, 1, none⟩ = some (.slice m.mem.vA m.mem.vs.length m.mem.vc) := by go_simp
 have ob2 : w1.cell? ⟨w.heap.size, 2, none⟩ = some (.slice m.ln.fA m.ln.first.length m.ln.fc) := by go_simp
 have ob3 : w1.cell? ⟨w.heap.size, 3, none⟩ = some (.slice m.ln.lA m.ln.logs.length m.ln.lc) := by go_simp
 have ob4 : w1.cell? ⟨w.heap.size, 4, none⟩ = some (.map m.ln.asks) := by go_simp
 have ob5 : w1.cell? ⟨w.heap.size, 5, none⟩ = some (.slice m.sA m.steps.length m.sc) := by go_simp
 have ob6 : w1.cell? ⟨w.heap.size, 6, none⟩ = some (.int .i64 m.crashes) := by go_simp
 have or0 : w1.cell? ⟨w.heap.size + 1 + 1, 0, none⟩ = some (.slice none 0 0) := by go_simp
 have or1 : w1.cell? ⟨w.heap.size + 1 + 1, 1, none⟩ = some (.slice none 0 0) := by go_simp
 have or2 : w1.cell? ⟨w.heap.size + 1 + 1, 2, none⟩ = some (.slice none 0 0) := by go_simp
 have or3 : w1.cell? ⟨w.heap.size + 1 + 1, 3, none⟩ = some (.slice none 0 0) := by go_simp
 have or4 : w1.cell? ⟨w.heap.size + 1 + 1, 4, none⟩ = some (.map none) := by go_simp
 have or5 : w1.cell? ⟨w.heap.size + 1 + 1, 5, none⟩ = some (.slice none 0 0) := by go_simp
 have or6 : w1.cell? ⟨w.heap.size + 1 + 1, 6, none⟩ = some (.int .i64 0) := by go_simp
 have og0 : w1.cell? ⟨w.heap.size + 1 + 1 + 1, 0, none⟩ = some (.int .i64 0) := by go_simp
 have og1 : w1.cell? ⟨w.heap.size + 1 + 1 + 1, 1, none⟩ = some (.int .u32 0) := by go_simp
 have og2 : w1.cell? ⟨w.heap.size + 1 + 1 + 1, 2, none⟩ = some (.int .u32 0) := by go_simp
 have og3 : w1.cell? ⟨w.heap.size + 1 + 1 + 1, 3, none⟩ = some (.bool false) := by go_simp
 have ox0 : w1.cell? ⟨w.heap.size + 1 + 1 + 1 + 1, 0, none⟩ = some (.int .i64 0) := by go_simp
 have ox1 : w1.cell? ⟨w.heap.size + 1 + 1 + 1 + 1, 1, none⟩ = some (.int .u32 0) := by go_simp
 have ox2 : w1.cell? ⟨w.heap.size + 1 + 1 + 1 + 1, 2, none⟩ = some (.int .u32 0) := by go_simp
 have ox3 : w1.cell? ⟨w.heap.size + 1 + 1 + 1 + 1, 3, none⟩ = some (.bool true) := by go_simp
 have oa1 : w1.cell? ⟨w.heap.size + 1, 1, none⟩ = some (.int .i64 k) := by go_simp
 have oa2 : w1.cell? ⟨w.heap.size + 1, 2, none⟩ = some (.int .i64 old.v) := by go_simp
 have oa3 : w1.cell? ⟨w.heap.size + 1, 3, none⟩ = some (.int .u32 old.r) := by go_simp
 have oa4 : w1.cell? ⟨w.heap.size + 1, 4, none⟩ = some (.int .u32 old.f) := by go_simp
 have oa5 : w1.cell? ⟨w.heap.size + 1, 5, none⟩ = some (.int .i64 new.v) := by go_simp
 have oa6 : w1.cell? ⟨w.heap.size + 1, 6, none⟩ = some (.int .u32 new.r) := by go_simp
 have oa7 : w1.cell? ⟨w.heap.size + 1, 7, none⟩ = some (.int .u32 new.f) := by go_simp
 have ofr : ∀ o, w1.frozen? ⟨w.heap.size + 1 + 1, o, none⟩ = false := by intro o; go_simp
 have ofg : ∀ o, w1.frozen? ⟨w.heap.size + 1 + 1 + 1, o, none⟩ = false := by intro o; go_simp
 have ofb : ∀ o, w1.frozen? ⟨w.heap.size, o, none⟩ = false := by intro o; go_simp
 have hB1 : Below w.heap.size w w1 := ab0
 clear hcc1 hff1 hb1
 obtain ⟨w2, hw2⟩ : ∃ W : World, W = ((w1.setCell ⟨w.heap.size, 0, none⟩ (.slice (some ⟨g9, 0, none⟩) m.mem.hs.length pc')).setCell ⟨w.heap.size, 1, none⟩ (.slice (some ⟨G, 0, none⟩) m.mem.vs.length m.mem.vs.length)) := ⟨_, rfl⟩
 have hs2 : w2.heap.size = w1.heap.size := by rw [hw2]; simp
 have pb0 : w2.cell? ⟨w.heap.size, 0, none⟩ = some (.slice (some ⟨g9, 0, none⟩) m.mem.hs.length pc') := by rw [hw2]; go_simp
 have pb1 : w2.cell? ⟨w.heap.size, 1, none⟩ = some (.slice (some ⟨G, 0, none⟩) m.mem.vs.length m.mem.vs.length) := by rw [hw2]; go_simp
 have pb2 : w2.cell? ⟨w.heap.size, 2, none⟩ = some (.slice m.ln.fA m.ln.first.length m.ln.fc) := by rw [hw2]; go_simp
 have pb3 : w2.cell? ⟨w.heap.size, 3, none⟩ = some (.slice m.ln.lA m.ln.logs.length m.ln.lc) := by rw [hw2]; go_simp
 have pb4 : w2.cell? ⟨w.heap.size, 4, none⟩ = some (.map m.ln.asks) := by rw [hw2]; go_simp
 have pb5 : w2.cell? ⟨w.heap.size, 5, none⟩ = some (.slice m.sA m.steps.length m.sc) := by rw [hw2]; go_simp
 have pb6 : w2.cell? ⟨w.heap.size, 6, none⟩ = some (.int .i64 m.crashes) := by rw [hw2]; go_simp
 have pr0 : w2.cell? ⟨w.heap.size + 1 + 1, 0, none⟩ = some (.slice none 0 0) := by rw [hw2]; go_simp
 have pr1 : w2.cell? ⟨w.heap.size + 1 + 1, 1, none⟩ = some (.slice none 0 0) := by rw [hw2]; go_simp
 have pr2 : w2.cell? ⟨w.heap.size + 1 + 1, 2, none⟩ = some (.slice none 0 0) := by rw [hw2]; go_simp
 have pr3 : w2.cell? ⟨w.heap.size + 1 + 1, 3, none⟩ = some (.slice none 0 0) := by rw [hw2]; go_simp
 have pr4 : w2.cell? ⟨w.heap.size + 1 + 1, 4, none⟩ = some (.map none) := by rw [hw2]; go_simp
 have pr5 : w2.cell? ⟨w.heap.size + 1 + 1, 5, none⟩ = some (.slice none 0 0) := by rw [hw2]; go_simp
 have pr6 : w2.cell? ⟨w.heap.size + 1 + 1, 6, none⟩ = some (.int .i64 0) := by rw [hw2]; go_simp
 have pg0 : w2.cell? ⟨w.heap.size + 1 + 1 + 1, 0, none⟩ = some (.int .i64 0) := by rw [hw2]; go_simp
 have pg1 : w2.cell? ⟨w.heap.size + 1 + 1 + 1, 1, none⟩ = some (.int .u32 0) := by rw [hw2]; go_simp
 have pg2 : w2.cell? ⟨w.heap.size + 1 + 1 + 1, 2, none⟩ = some (.int .u32 0) := by rw [hw2]; go_simp
 have pg3 : w2.cell? ⟨w.heap.size + 1 + 1 + 1, 3, none⟩ = some (.bool false) := by rw [hw2]; go_simp
 have px0 : w2.cell? ⟨w.heap.size + 1 + 1 + 1 + 1, 0, none⟩ = some (.int .i64 0) := by rw [hw2]; go_simp
 have px1 : w2.cell? ⟨w.heap.size + 1 + 1 + 1 + 1, 1, none⟩ = some (.int .u32 0) := by rw [hw2]; go_simp
 have px2 : w2.cell? ⟨w.heap.size + 1 + 1 + 1 + 1, 2, none⟩ = some (.int .u32 0) := by rw [hw2]; go_simp
 have px3 : w2.cell? ⟨w.heap.size + 1 + 1 + 1 + 1, 3, none⟩ = some (.bool true) := by rw [hw2]; go_simp
 have pa1 : w2.cell? ⟨w.heap.size + 1, 1, none⟩ = some (.int .i64 k) := by rw [hw2]; go_simp
 have pa2 : w2.cell? ⟨w.heap.size + 1, 2, none⟩ = some (.int .i64 old.v) := by rw [hw2]; go_simp
 have pa3 : w2.cell? ⟨w.heap.size + 1, 3, none⟩ = some (.int .u32 old.r) := by rw [hw2]; go_simp
 have pa4 : w2.cell? ⟨w.heap.size + 1, 4, none⟩ = some (.int .u32 old.f) := by rw [hw2]; go_simp
 have pa5 : w2.cell? ⟨w.heap.size + 1, 5, none⟩ = some (.int .i64 new.v) := by rw [hw2]; go_simp
 have pa6 : w2.cell? ⟨w.heap.size + 1, 6, none⟩ = some (.int .u32 new.r) := by rw [hw2]; go_simp
 have pa7 : w2.cell? ⟨w.heap.size + 1, 7, none⟩ = some (.int .u32 new.f) := by rw [hw2]; go_simp
 have pfr : ∀ o, w2.frozen? ⟨w.heap.size + 1 + 1, o, none⟩ = false := by intro o; rw [hw2]; go_simp
 have pfg : ∀ o, w2.frozen? ⟨w.heap.size + 1 + 1 + 1, o, none⟩ = false := by intro o; rw [hw2]; go_simp
 have pfb : ∀ o, w2.frozen? ⟨w.heap.size, o, none⟩ = false := by intro o; rw [hw2]; go_simp
 have hB2 : Below w.heap.size w w2 := by rw [hw2]; exact (Below.setCell (Below.setCell hB1 (p := ⟨w.heap.size, 0, none⟩) (by show w.heap.size ≤ w.heap.size; omega) (.slice (some ⟨g9, 0, none⟩) m.mem.hs.length pc')) (p := ⟨w.heap.size, 1, none⟩) (by show w.heap.size ≤ w.heap.size; omega) (.slice (some ⟨G, 0, none⟩) m.mem.vs.length m.mem.vs.length))
 have moB : MemV.off (w.heap.size) (m.mem.added t k h.l new (withF a.f k h.l.length) (tq) g9 pc' g7 cap' G v' vt) := MemV.off_added (MemV.off_new HR.out.1 oM) oM oM oM
 have moW : MemV.off (w.heap.size + 1 + 1 + 1 + 1) (m.mem.added t k h.l new (withF a.f k h.l.length) (tq) g9 pc' g7 cap' G v' vt) := MemV.off_added (MemV.off_new HR.out.1 oM) oM oM oM
 have HM2 : Hid (MemV.R w2 (m.mem.added t k h.l new (withF a.f k h.l.length) (tq) g9 pc' g7 cap' G v' vt)) := hide (by rw [hw2]; exact (MemV.R.set (MemV.R.set Hm1.out moB (.of ob0) (.slice (some ⟨g9, 0, none⟩) m.mem.hs.length pc')) moB (.set (.of ob1) _) (.slice (some ⟨G, 0, none⟩) m.mem.vs.length m.mem.vs.length)))
 have Hs2 := hide hs2
 rw [← hw2]
 clear hw2 ob0 ob1 ob2 ob3 ob4 ob5 ob6 or0 or1 or2 or3 or4 or5 or6 og0 og1 og2 og3 ox0 ox1 ox2 ox3 oa1 oa2 oa3 oa4 oa5 oa6 oa7 ofr ofg ofb Hm1
 have hy0 : w.heap.size < w2.heap.size := oM
 have hy1 : w.heap.size + 1 < w2.heap.size := oM
 have hy2 : w.heap.size + 1 + 1 < w2.heap.size := oM
 have hy3 : w.heap.size + 1 + 1 + 1 < w2.heap.size := oM
 have hy4 : w.heap.size + 1 + 1 + 1 + 1 < w2.heap.size := oM
 clear hs2
 go_wp2_with (first
  | (go_at_call 139; refine (Hst.out _ (HR.out.2.1.below ab0)).mono ?_; rintro e w3 ⟨g1, lc', g2, cp2, rfl, hg1, hg2, hln3, hb3⟩; have hs3 := hb3.size; have Hln3 := hide hln3; clear hln3; have qb0 := (hb3.cell (p := ⟨w.heap.size, 0, none⟩) hy0).trans pb0; have qb1 := (hb3.cell (p := ⟨w.heap.size, 1, none⟩) hy0).trans pb1; have qb2 := (hb3.cell (p := ⟨w.heap.size, 2, none⟩) hy0).trans pb2; have qb3 := (hb3.cell (p := ⟨w.heap.size, 3, none⟩) hy0).trans pb3; have qb4 := (hb3.cell (p := ⟨w.heap.size, 4, none⟩) hy0).trans pb4; have qb5 := (hb3.cell (p := ⟨w.heap.size, 5, none⟩) hy0).trans pb5; have qb6 := (hb3.cell (p := ⟨w.heap.size, 6, none⟩) hy0).trans pb6; have qr0 := (hb3.cell (p := ⟨w.heap.size + 1 + 1, 0, none⟩) hy2).trans pr0; have qr1 := (hb3.cell (p := ⟨w.heap.size + 1 + 1, 1, none⟩) hy2).trans pr1; have qr2 := (hb3.cell (p := ⟨w.heap.size + 1 + 1, 2, none⟩) hy2).trans pr2; have qr3 := (hb3.cell (p := ⟨w.heap.size + 1 + 1, 3, none⟩) hy2).trans pr3; have qr4 := (hb3.cell (p := ⟨w.heap.size + 1 + 1, 4, none⟩) hy2).trans pr4; have qr5 := (hb3.cell (p := ⟨w.heap.size + 1 + 1, 5, none⟩) hy2).trans pr5; have qr6 := (hb3.cell (p := ⟨w.heap.size + 1 + 1, 6, none⟩) hy2).trans pr6; have qg0 := (hb3.cell (p := ⟨w.heap.size + 1 + 1 + 1, 0, none⟩) hy3).trans pg0; have qg1 := (hb3.cell (p := ⟨w.heap.size + 1 + 1 + 1, 1, none⟩) hy3).trans pg1; have qg2 := (hb3.cell (p := ⟨w.heap.size + 1 + 1 + 1, 2, none⟩) hy3).trans pg2; have qg3 := (hb3.cell (p := ⟨w.heap.size + 1 + 1 + 1, 3, none⟩) hy3).trans pg3; have qx0 := (hb3.cell (p := ⟨w.heap.size + 1 + 1 + 1 + 1, 0, none⟩) hy4).trans px0; have qx1 := (hb3.cell (p := ⟨w.heap.size + 1 + 1 + 1 + 1, 1, none⟩) hy4).trans px1; have qx2 := (hb3.cell (p := ⟨w.heap.size + 1 + 1 + 1 + 1, 2, none⟩) hy4).trans px2; have qx3 := (hb3.cell (p := ⟨w.heap.size + 1 + 1 + 1 + 1, 3, none⟩) hy4).trans px3; have qfr : ∀ o, w3.frozen? ⟨w.heap.size + 1 + 1, o, none⟩ = false := (fun o => (hb3.frozen (p := ⟨w.heap.size + 1 + 1, o, none⟩) hy2).trans (pfr o)); have qfg : ∀ o, w3.frozen? ⟨w.heap.size + 1 + 1 + 1, o, none⟩ = false := (fun o => (hb3.frozen (p := ⟨w.heap.size + 1 + 1 + 1, o, none⟩) hy3).trans (pfg o)); have qfb : ∀ o, w3.frozen? ⟨w.heap.size, o, none⟩ = false := (fun o => (hb3.frozen (p := ⟨w.heap.size, o, none⟩) hy0).trans (pfb o)); clear pb0 pb1 pb2 pb3 pb4 pb5 pb6 pr0 pr1 pr2 pr3 pr4 pr5 pr6 pg0 pg1 pg2 pg3 px0 px1 px2 px3 pa1 pa2 pa3 pa4 pa5 pa6 pa7 pfr pfg pfb))
 have oB : MachV.off (w.heap.size) (⟨(m.mem.added t k h.l new (withF a.f k h.l.length) (tq) g9 pc' g7 cap' G v' vt), m.ln.stored k lg new g1 lc' g2 cp2, m.sA, m.sc, m.steps, m.crashes, m.ak⟩ : MachV) := ⟨MemV.off_added (MemV.off_new HR.out.1 oM) oM oM oM, LinesV.off_stored (LinesV.off_new HR.out.2.1 oM) oM oM, OffC.new HR.out.2.2.2.2.1 oM, (MachV.off_new HR.out oM).2.2.2⟩
 have oR : MachV.off (w.heap.size + 1 + 1) (⟨(m.mem.added t k h.l new (withF a.f k h.l.length) (tq) g9 pc' g7 cap' G v' vt), m.ln.stored k lg new g1 lc' g2 cp2, m.sA, m.sc, m.steps, m.crashes, m.ak⟩ : MachV) := ⟨MemV.off_added (MemV.off_new HR.out.1 oM) oM oM oM, LinesV.off_stored (LinesV.off_new HR.out.2.1 oM) oM oM, OffC.new HR.out.2.2.2.2.1 oM, (MachV.off_new HR.out oM).2.2.2⟩
 have oG : MachV.off (w.heap.size + 1 + 1 + 1) (⟨(m.mem.added t k h.l new (withF a.f k h.l.length) (tq) g9 pc' g7 cap' G v' vt), m.ln.stored k lg new g1 lc' g2 cp2, m.sA, m.sc, m.steps, m.crashes, m.ak⟩ : MachV) := ⟨MemV.off_added (MemV.off_new HR.out.1 oM) oM oM oM, LinesV.off_stored (LinesV.off_new HR.out.2.1 oM) oM oM, OffC.new HR.out.2.2.2.2.1 oM, (MachV.off_new HR.out oM).2.2.2⟩
 have oW : MachV.off (w.heap.size + 1 + 1 + 1 + 1) (⟨(m.mem.added t k h.l new (withF a.f k h.l.length) (tq) g9 pc' g7 cap' G v' vt), m.ln.stored k lg new g1 lc' g2 cp2, m.sA, m.sc, m.steps, m.crashes, m.ak⟩ : MachV) := ⟨MemV.off_added (MemV.off_new HR.out.1 oM) oM oM oM, LinesV.off_stored (LinesV.off_new HR.out.2.1 oM) oM oM, OffC.new HR.out.2.2.2.2.1 oM, (MachV.off_new HR.out oM).2.2.2⟩
 have hB3 : Below w.heap.size w w3 := hB2.trans (hb3.mono oM)
 have HM3 : Hid (MachV.R w3 (⟨(m.mem.added t k h.l new (withF a.f k h.l.length) (tq) g9 pc' g7 cap' G v' vt), m.ln.stored k lg new g1 lc' g2 cp2, m.sA, m.sc, m.steps, m.crashes, m.ak⟩ : MachV)) := hide ⟨HM2.out.below hb3, Hln3.out, (HR.out.below hB3).2.2⟩
 obtain ⟨w4, hw4⟩ : ∃ W : World, W = (((w3.setCell ⟨w.heap.size, 2, none⟩ (.slice m.ln.fA m.ln.first.length m.ln.fc)).setCell ⟨w.heap.size, 3, none⟩ (.slice (some ⟨g1, 0, none⟩) m.ln.logs.length lc')).setCell ⟨w.heap.size, 4, none⟩ (.map m.ln.asks)) := ⟨_, rfl⟩
 have ub0 : w4.cell? ⟨w.heap.size, 0, none⟩ = some (.slice (some ⟨g9, 0, none⟩) m.mem.hs.length pc') := by rw [hw4]; go_simp
 have ub1 : w4.cell? ⟨w.heap.size, 1, none⟩ = some (.slice (some ⟨G, 0, none⟩) m.mem.vs.length m.mem.vs.length) := by rw [hw4]; go_simp
 have ub2 : w4.cell? ⟨w.heap.size, 2, none⟩ = some (.slice m.ln.fA m.ln.first.length m.ln.fc) := by rw [hw4]; go_simp
 have ub3 : w4.cell? ⟨w.heap.size, 3, none⟩ = some (.slice (some ⟨g1, 0, none⟩) m.ln.logs.length lc') := by rw [hw4]; go_simp
 have ub4 : w4.cell? ⟨w.heap.size, 4, none⟩ = some (.map m.ln.asks) := by rw [hw4]; go_simp
 have ub5 : w4.cell? ⟨w.heap.size, 5, none⟩ = some (.slice m.sA m.steps.length m.sc) := by rw [hw4]; go_simp
 have ub6 : w4.cell? ⟨w.heap.size, 6, none⟩ = some (.int .i64 m.crashes) := by rw [hw4]; go_simp
 have ur0 : w4.cell? ⟨w.heap.size + 1 + 1, 0, none⟩ = some (.slice none 0 0) := by rw [hw4]; go_simp
 have ur1 : w4.cell? ⟨w.heap.size + 1 + 1, 1, none⟩ = some (.slice none 0 0) := by rw [hw4]; go_simp
 have ur2 : w4.cell? ⟨w.heap.size + 1 + 1, 2, none⟩ = some (.slice none 0 0) := by rw [hw4]; go_simp
 have ur3 : w4.cell? ⟨w.heap.size + 1 + 1, 3, none⟩ = some (.slice none 0 0) := by rw [hw4]; go_simp
 have ur4 : w4.cell? ⟨w.heap.size + 1 + 1, 4, none⟩ = some (.map none) := by rw [hw4]; go_simp
 have ur5 : w4.cell? ⟨w.heap.size + 1 + 1, 5, none⟩ = some (.slice none 0 0) := by rw [hw4]; go_simp
 have ur6 : w4.cell? ⟨w.heap.size + 1 + 1, 6, none⟩ = some (.int .i64 0) := by rw [hw4]; go_simp
 have ug0 : w4.cell? ⟨w.heap.size + 1 + 1 + 1, 0, none⟩ = some (.int .i64 0) := by rw [hw4]; go_simp
 have ug1 : w4.cell? ⟨w.heap.size + 1 + 1 + 1, 1, none⟩ = some (.int .u32 0) := by rw [hw4]; go_simp
 have ug2 : w4.cell? ⟨w.heap.size + 1 + 1 + 1, 2, none⟩ = some (.int .u32 0) := by rw [hw4]; go_simp
 have ug3 : w4.cell? ⟨w.heap.size + 1 + 1 + 1, 3, none⟩ = some (.bool false) := by rw [hw4]; go_simp
 have ux0 : w4.cell? ⟨w.heap.size + 1 + 1 + 1 + 1, 0, none⟩ = some (.int .i64 0) := by rw [hw4]; go_simp
 have ux1 : w4.cell? ⟨w.heap.size + 1 + 1 + 1 + 1, 1, none⟩ = some (.int .u32 0) := by rw [hw4]; go_simp
 have ux2 : w4.cell? ⟨w.heap.size + 1 + 1 + 1 + 1, 2, none⟩ = some (.int .u32 0) := by rw [hw4]; go_simp
 have ux3 : w4.cell? ⟨w.heap.size + 1 + 1 + 1 + 1, 3, none⟩ = some (.bool true) := by rw [hw4]; go_simp
 have ufr : ∀ o, w4.frozen? ⟨w.heap.size + 1 + 1, o, none⟩ = false := by intro o; rw [hw4]; go_simp
 have ufg : ∀ o, w4.frozen? ⟨w.heap.size + 1 + 1 + 1, o, none⟩ = false := by intro o; rw [hw4]; go_simp
 have HM4 : Hid (MachV.R w4 (⟨(m.mem.added t k h.l new (withF a.f k h.l.length) (tq) g9 pc' g7 cap' G v' vt), m.ln.stored k lg new g1 lc' g2 cp2, m.sA, m.sc, m.steps, m.crashes, m.ak⟩ : MachV)) := hide (by rw [hw4]; exact (MachV.R.set (MachV.R.set (MachV.R.set HM3.out oB (.of qb2) (.slice m.ln.fA m.ln.first.length m.ln.fc)) oB (.set (.of qb3) _) (.slice (some ⟨g1, 0, none⟩) m.ln.logs.length lc')) oB (.set (.set (.of qb4) _) _) (.map m.ln.asks)))
 have hB4 : Below w.heap.size w w4 := by rw [hw4]; exact (Below.setCell (Below.setCell (Below.setCell hB3 (p := ⟨w.heap.size, 2, none⟩) (by show w.heap.size ≤ w.heap.size; omega) (.slice m.ln.fA m.ln.first.length m.ln.fc)) (p := ⟨w.heap.size, 3, none⟩) (by show w.heap.size ≤ w.heap.size; omega) (.slice (some ⟨g1, 0, none⟩) m.ln.logs.length lc')) (p := ⟨w.heap.size, 4, none⟩) (by show w.heap.size ≤ w.heap.size; omega) (.map m.ln.asks))
 rw [← hw4]
 clear hw4 qb0 qb1 qb2 qb3 qb4 qb5 qb6 qr0 qr1 qr2 qr3 qr4 qr5 qr6 qg0 qg1 qg2 qg3 qx0 qx1 qx2 qx3 qfr qfg qfb
 refine wp_region_held_drew (S := (fun w' => (w'.cell? ⟨w.heap.size, 0, none⟩ = some (.slice (some ⟨g9, 0, none⟩) m.mem.hs.length pc') ∧ w'.cell? ⟨w.heap.size, 1, none⟩ = some (.slice (some ⟨G, 0, none⟩) m.mem.vs.length m.mem.vs.length) ∧ w'.cell? ⟨w.heap.size, 2, none⟩ = some (.slice m.ln.fA m.ln.first.length m.ln.fc) ∧ w'.cell? ⟨w.heap.size, 3, none⟩ = some (.slice (some ⟨g1, 0, none⟩) m.ln.logs.length lc') ∧ w'.cell? ⟨w.heap.size, 4, none⟩ = some (.map m.ln.asks) ∧ w'.cell? ⟨w.heap.size, 5, none⟩ = some (.slice m.sA m.steps.length m.sc) ∧ w'.cell? ⟨w.heap.size, 6, none⟩ = some (.int .i64 m.crashes)) ∧ (w'.cell? ⟨w.heap.size + 1 + 1 + 1 + 1, 0, none⟩ = some (.int .i64 0) ∧ w'.cell? ⟨w.heap.size + 1 + 1 + 1 + 1, 1, none⟩ = some (.int .u32 0) ∧ w'.cell? ⟨w.heap.size + 1 + 1 + 1 + 1, 2, none⟩ = some (.int .u32 0) ∧ w'.cell? ⟨w.heap.size + 1 + 1 + 1 + 1, 3, none⟩ = some (.bool true)))) kR ab6 (fun hHeld => ?_)
 refine tq1 0 ?_
 refine tq1 1 ?_
 refine wE 2 fun K hK => ?_
 go_simp
 go_wp2_with fail
 refine oK hK ab6 fun hHeld => ?_
 clear hK K
 refine wE 3 fun K hK => ?_
 go_simp
 go_wp2_with fail
 refine oK hK ab6 fun hHeld => ?_
 clear hK K
 refine wD ?_
 all_goals go_wp2_with fail
 all_goals have hGw : w.heap.size ≤ G := by omega
 all_goals have HZ := hide (MachV.R.set (MachV.R.set (MachV.R.set (MachV.R.set (MachV.R.set (MachV.R.set (MachV.R.set (MachV.R.set (MachV.R.set (MachV.R.set (MachV.R.set HM4.out oR (.of ur0) (.slice (some ⟨g9, 0, none⟩) m.mem.hs.length pc')) oR (.set (.of ur1) _) (.slice (some ⟨G, 0, none⟩) m.mem.vs.length m.mem.vs.length)) oR (.set (.set (.of ur2) _) _) (.slice m.ln.fA m.ln.first.length m.ln.fc)) oR (.set (.set (.set (.of ur3) _) _) _) (.slice (some ⟨g1, 0, none⟩) m.ln.logs.length lc')) oR (.set (.set (.set (.set (.of ur4) _) _) _) _) (.map m.ln.asks)) oR (.set (.set (.set (.set (.set (.of ur5) _) _) _) _) _) (.slice m.sA m.steps.length m.sc)) oR (.set (.set (.set (.set (.set (.set (.of ur6) _) _) _) _) _) _) (.int .i64 m.crashes)) oG (.set (.set (.set (.set (.set (.set (.set (.of ug0) _) _) _) _) _) _) _) (.int .i64 0)) oG (.set (.set (.set (.set (.set (.set (.set (.set (.of ug1) _) _) _) _) _) _) _) _) (.int .u32 0)) oG (.set (.set (.set (.set (.set (.set (.set (.set (.set (.of ug2) _) _) _) _) _) _) _) _) _) (.int .u32 0)) oG (.set (.set (.set (.set (.set (.set (.set (.set (.set (.set (.of ug3) _) _) _) _) _) _) _) _) _) _) (.bool true))
 all_goals have HB := hide (Below.setCell (Below.setCell (Below.setCell (Below.setCell (Below.setCell (Below.setCell (Below.setCell (Below.setCell (Below.setCell (Below.setCell (Below.setCell hB4 (p := ⟨w.heap.size + 1 + 1, 0, none⟩) ab4 (.slice (some ⟨g9, 0, none⟩) m.mem.hs.length pc')) (p := ⟨w.heap.size + 1 + 1, 1, none⟩) ab4 (.slice (some ⟨G, 0, none⟩) m.mem.vs.length m.mem.vs.length)) (p := ⟨w.heap.size + 1 + 1, 2, none⟩) ab4 (.slice m.ln.fA m.ln.first.length m.ln.fc)) (p := ⟨w.heap.size + 1 + 1, 3, none⟩) ab4 (.slice (some ⟨g1, 0, none⟩) m.ln.logs.length lc')) (p := ⟨w.heap.size + 1 + 1, 4, none⟩) ab4 (.map m.ln.asks)) (p := ⟨w.heap.size + 1 + 1, 5, none⟩) ab4 (.slice m.sA m.steps.length m.sc)) (p := ⟨w.heap.size + 1 + 1, 6, none⟩) ab4 (.int .i64 m.crashes)) (p := ⟨w.heap.size + 1 + 1 + 1, 0, none⟩) ab14 (.int .i64 0)) (p := ⟨w.heap.size + 1 + 1 + 1, 1, none⟩) ab14 (.int .u32 0)) (p := ⟨w.heap.size + 1 + 1 + 1, 2, none⟩) ab14 (.int .u32 0)) (p := ⟨w.heap.size + 1 + 1 + 1, 3, none⟩) ab14 (.bool true))
 all_goals have hbb : w.heap.size ≤ g9 ∧ w.heap.size ≤ g7 ∧ w.heap.size ≤ G ∧ w.heap.size ≤ g1 ∧ w.heap.size ≤ g2 := ⟨by omega, by omega, by omega, by omega, by omega⟩
 all_goals have hLs : (m.mem.vs.set t ⟨v', withF a.f k h.l.length⟩).length = m.mem.vs.length := List.length_set
 all_goals have hLh : (m.mem.hs.set k ⟨some ⟨g7, 0, none⟩, cap', h.l ++ [⟨new, (t : Int) + 1, ⟨vt, tq⟩⟩]⟩).length = m.mem.hs.length := List.length_set
 all_goals have hLl : (m.ln.logs.set (k / 8) ⟨some ⟨g2, 0, none⟩, cp2, lg.l ++ [((k : Int), new)], lg.kept⟩).length = m.ln.logs.length := List.length_set
 all_goals refine bodyPost_ret (v := .tuple #[.agg #[.slice (some ⟨g9, 0, none⟩) m.mem.hs.length pc', .slice (some ⟨G, 0, none⟩) m.mem.vs.length m.mem.vs.length, .slice m.ln.fA m.ln.first.length m.ln.fc, .slice (some ⟨g1, 0, none⟩) m.ln.logs.length lc', .map m.ln.asks, .slice m.sA m.steps.length m.sc, .int .i64 m.crashes], .agg #[.int .i64 0, .int .u32 0, .int .u32 0, .bool true]]) (by simp [results, Tryz.results111, go_sem]; (try go_simp)) rfl ⟨g9, pc', g7, cap', G, v', vt, g1, lc', g2, cp2, (by simp only [maV, MemV.added, LinesV.stored, MemV.with, hLs, hLh, hLl]), hbb, ?_, ?_⟩
 all_goals first
  | with_reducible exact HZ.out
  | with_reducible exact HZ.out.drew
  | with_reducible exact HB.out
  | with_reducible exact HB.out.drew) : p := h
theorem mach_store (m : MachV) (t k : Nat) (act : ActV) (h : HistV) (a : VwV) (w : World) (hop : act.op = 3) (hat : act.at_ = k) (hR : m.R w) (hh : m.mem.hs[k]? = some h) (ha : m.mem.vs[t]? = some a) (hn : m.mem.vs.length ≤ 1000) (hL : m.mem.hs.length ≤ 4096) (hl6 : h.l.length ≤ 1000000) (lg : LogV) (hk1 : k < m.ln.first.length) (hlg : m.ln.logs[k / 8]? = some lg) (hf : m.ln.first.length ≤ 4096) (hlo : m.ln.logs.length ≤ 4096) (hg6 : lg.l.length ≤ 1000000) : Calls Tryz.prog 111 #[(maV m), .int .i64 ((t : Int) + 1), (avV act)] w fun e w' => ∃ g9 pc' g7 cap' G v' vt g1 lc' g2 cp2, e = .returned (.tuple #[(maV (⟨m.mem.added t k h.l act.new (withF a.f k h.l.length) (toldF false a.f k h.l.length) g9 pc' g7 cap' G v' vt, m.ln.stored k lg act.new g1 lc' g2 cp2, m.sA, m.sc, m.steps, m.crashes, m.ak⟩ : MachV)), .agg #[.int .i64 0, .int .u32 0, .int .u32 0, .bool true]]) ∧ (w.heap.size ≤ g9 ∧ w.heap.size ≤ g7 ∧ w.heap.size ≤ G ∧ w.heap.size ≤ g1 ∧ w.heap.size ≤ g2) ∧ MachV.R w' (⟨m.mem.added t k h.l act.new (withF a.f k h.l.length) (toldF false a.f k h.l.length) g9 pc' g7 cap' G v' vt, m.ln.stored k lg act.new g1 lc' g2 cp2, m.sA, m.sc, m.steps, m.crashes, m.ak⟩ : MachV) ∧ Below w.heap.size w w' := by
 try unfold avV
 obtain ⟨op, z, old, new⟩ := act
 simp only at hop hat
 subst hop hat
 have hsw := fun W (hw : m.mem.R W) => mem_Store false m.mem t k h a new W hw hh ha hn hL hl6
 obtain ⟨tq, htq⟩ : ∃ f, f = toldF false a.f k h.l.length := ⟨_, rfl⟩
 rw [← htq] at hsw ⊢
 clear htq
 have Hsw := hide hsw
 have HR := hide hR
 have hst := fun W (hw : m.ln.R W) => line_store m.ln k lg new W hw hk1 hlg hf hlo hg6
 have Hst := hide hst
 clear hst hk1 hlg hf hlo hg6
 clear hsw hR hh ha hn hL hl6
 go_enter Tryz.func111, Tryz.ntmps111
 ·exact abD1
theorem mach_release (m : MachV) (t k : Nat) (act : ActV) (h : HistV) (a : VwV) (w : World) (hop : act.op = 4) (hat : act.at_ = k) (hR : m.R w) (hh : m.mem.hs[k]? = some h) (ha : m.mem.vs[t]? = some a) (hn : m.mem.vs.length ≤ 1000) (hL : m.mem.hs.length ≤ 4096) (hl6 : h.l.length ≤ 1000000) (lg : LogV) (hk1 : k < m.ln.first.length) (hlg : m.ln.logs[k / 8]? = some lg) (hf : m.ln.first.length ≤ 4096) (hlo : m.ln.logs.length ≤ 4096) (hg6 : lg.l.length ≤ 1000000) : Calls Tryz.prog 111 #[(maV m), .int .i64 ((t : Int) + 1), (avV act)] w fun e w' => ∃ g9 pc' g7 cap' G v' vt g1 lc' g2 cp2, e = .returned (.tuple #[(maV (⟨m.mem.added t k h.l act.new (withF a.f k h.l.length) (toldF true a.f k h.l.length) g9 pc' g7 cap' G v' vt, m.ln.stored k lg act.new g1 lc' g2 cp2, m.sA, m.sc, m.steps, m.crashes, m.ak⟩ : MachV)), .agg #[.int .i64 0, .int .u32 0, .int .u32 0, .bool true]]) ∧ (w.heap.size ≤ g9 ∧ w.heap.size ≤ g7 ∧ w.heap.size ≤ G ∧ w.heap.size ≤ g1 ∧ w.heap.size ≤ g2) ∧ MachV.R w' (⟨m.mem.added t k h.l act.new (withF a.f k h.l.length) (toldF true a.f k h.l.length) g9 pc' g7 cap' G v' vt, m.ln.stored k lg act.new g1 lc' g2 cp2, m.sA, m.sc, m.steps, m.crashes, m.ak⟩ : MachV) ∧ Below w.heap.size w w' := by
 try unfold avV
 obtain ⟨op, z, old, new⟩ := act
 simp only at hop hat
 subst hop hat
 have hsw := fun W (hw : m.mem.R W) => mem_Store true m.mem t k h a new W hw hh ha hn hL hl6
 obtain ⟨tq, htq⟩ : ∃ f, f = toldF true a.f k h.l.length := ⟨_, rfl⟩
 rw [← htq] at hsw ⊢
 clear htq
 have Hsw := hide hsw
 have HR := hide hR
 have hst := fun W (hw : m.ln.R W) => line_store m.ln k lg new W hw hk1 hlg hf hlo hg6
 have Hst := hide hst
 clear hst hk1 hlg hf hlo hg6
 clear hsw hR hh ha hn hL hl6
 go_enter Tryz.func111, Tryz.ntmps111
 ·exact abD1
end Go.Proofs.YtnnmenmifphadaaGreatDoor
