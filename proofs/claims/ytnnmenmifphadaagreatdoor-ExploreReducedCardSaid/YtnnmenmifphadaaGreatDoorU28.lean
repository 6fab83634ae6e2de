/- Package machine: write, at a Swap. -/
import Derived.Test.YtnnmenmifphadaaGreatDoorU27
set_option linter.unusedSimpArgs false
set_option linter.unusedVariables false
set_option maxRecDepth 100000
set_option maxHeartbeats 40000000
namespace Go.Proofs.YtnnmenmifphadaaGreatDoor
open Go.RowKit Go.Maps
def MemV.swapped (m : MemV) (t k : Nat) (l : List MsgV) (y : W3) (f : Int → Int) (g9 pc' g7 cap' G : Nat) (v' : Option Nat) : MemV := MemV.with ⟨some ⟨g9, 0, none⟩, pc', m.hs.set k ⟨some ⟨g7, 0, none⟩, cap', l ++ [⟨y, (t : Int) + 1, ⟨v', f⟩⟩]⟩, m.vA, m.vc, m.vs⟩ (some ⟨G, 0, none⟩) m.vs.length t ⟨v', f⟩
theorem MemV.off_swapped {m : MemV} {t k : Nat} {l : List MsgV} {y : W3} {f : Int → Int} {g9 pc' g7 cap' G C : Nat} {v' : Option Nat} (h : m.off C) (h1 : g9 ≠ C) (h2 : g7 ≠ C) (h3 : G ≠ C) : (m.swapped t k l y f g9 pc' g7 cap' G v').off C := MemV.off_with (MemV.off_put h h1 h2) h3
def LinesV.stored (m : LinesV) (k : Nat) (lg : LogV) (x : W3) (g1 lc' g2 cap' : Nat) : LinesV := ⟨m.fA, m.fc, m.first, some ⟨g1, 0, none⟩, lc', m.logs.set (k / 8) ⟨some ⟨g2, 0, none⟩, cap', lg.l ++ [((k : Int), x)], lg.kept⟩, m.asks⟩
theorem LinesV.off_stored {m : LinesV} {k : Nat} {lg : LogV} {x : W3} {g1 lc' g2 cap' C : Nat} (h : m.off C) (h1 : g1 ≠ C) (h2 : g2 ≠ C) : (m.stored k lg x g1 lc' g2 cap').off C := by
 refine ⟨h.1, OffC.at h1, fun y hy => ?_⟩
 rcases List.mem_or_eq_of_mem_set hy with hy | rfl
 ·exact h.2.2 y hy
 ·exact OffC.at h2
theorem mach_swap_no (m : MachV) (t k n : Nat) (act : ActV) (h : HistV) (g : MsgV) (a : VwV) (w : World) (hop : act.op = 6) (hat : act.at_ = k) (hR : m.R w) (hh : m.mem.hs[k]? = some h) (hl : h.l.length = n + 1) (hg : h.l[n]? = some g) (ha : m.mem.vs[t]? = some a) (hn : m.mem.vs.length ≤ 1000) (hL : m.mem.hs.length ≤ 4096) (hi6 : n < 1000000) (hne : eq3 g.x act.old = false) : Calls Tryz.prog 111 #[(maV m), .int .i64 ((t : Int) + 1), (avV act)] w fun e w' => ∃ G v', e = .returned (.tuple #[(maV (m.withMem (m.mem.with (some ⟨G, 0, none⟩) m.mem.vs.length t ⟨v', joinF (withF a.f k n) g.a.f⟩))), .agg #[.int .i64 g.x.v, .int .u32 g.x.r, .int .u32 g.x.f, .bool false]]) ∧ w.heap.size ≤ G ∧ (m.withMem (m.mem.with (some ⟨G, 0, none⟩) m.mem.vs.length t ⟨v', joinF (withF a.f k n) g.a.f⟩)).R w' ∧ Below w.heap.size w w' := by
 try unfold avV
 obtain ⟨op, z, old, new⟩ := act
 simp only at hop hat hne
 subst hop hat
 have hsw := fun W (hw : m.mem.R W) => mem_swap_no m.mem t k n h g a old new W hw hh hl hg ha hn hL hi6 hne
 have Hsw := hide hsw
 have HR := hide hR
 clear hsw hR hh hl hg ha hn hL hi6 hne
 go_enter Tryz.func111, Tryz.ntmps111
 go_upto_region 5 with (first
  | (go_at_call 137; refine (Hsw.out _ (HR.out.1.below ab0)).mono ?_; rintro e w1 ⟨G, v', rfl, hG, hm1, hb1⟩; (try simp at hG); obtain ⟨hcc1, hff1, hs1⟩ := bC hb1; (try simp at hs1); have hz0 : w.heap.size < w1.heap.size := oM; have hz1 : w.heap.size + 1 < w1.heap.size := oM; have hz2 : w.heap.size + 1 + 1 < w1.heap.size := oM; have hz3 : w.heap.size + 1 + 1 + 1 < w1.heap.size := oM; have hz4 : w.heap.size + 1 + 1 + 1 + 1 < w1.heap.size := oM; have Hm1 := hide hm1; clear hm1))
 have ob0 : w1.cell? ⟨w.heap.size, 0, none⟩ = some (.slice m.mem.pA m.mem.hs.length m.mem.pc) := by go_simp
 have ob1 : w1.cell? ⟨w.heap.size, 1, none⟩ = some (.slice m.mem.vA m.mem.vs.length m.mem.vc) := by go_simp
 have ob2 : w1.cell? ⟨w.heap.size, 2, none⟩ = some (.slice m.ln.fA m.ln.first.length m.ln.fc) := by go_simp
 have ob3 : w1.cell? ⟨w.heap.size, 3, none⟩ = some (.slice m.ln.lA m.ln.logs.length m.ln.lc) := by go_simp
 have ob4 : w1.cell? ⟨w.heap.size, 4, none⟩ = some (.map m.ln.asks) := by go_simp
 have ob5 : w1.cell? ⟨w.heap.size, 5, none⟩ = some (.slice m.sA m.steps.length m.sc) := by go_simp
 have ob6 : w1.cell? ⟨w.heap.size, 6, none⟩ = some (.int .i64 m.crashes) := by go_simp
 have or0 : w1.cell? ⟨w.heap.size + 1 + 1, 0, none⟩ = some (.slice none 0 0) := by go_simp
 have or1 : w1.cell? ⟨w.heap.size + 1 + 1, 1, none⟩ = some (.slice none 0 0) := by go_simp
 have or2 : w1.cell? ⟨w.heap.size + 1 + 1, 2, none⟩ = some (.slice none 0 0) := by go_simp
 have or3 : w1.cell? ⟨w.heap.size + 1 + 1, 3, none⟩ = some (.slice none 0 0) := by go_simp
 have or4 : w1.cell? ⟨w.heap.size + 1 + 1, 4, none⟩ = some (.map none) := by go_simp
 have or5 : w1.cell? ⟨w.heap.size + 1 + 1, 5, none⟩ = some (.slice none 0 0) := by go_simp
 have or6 : w1.cell? ⟨w.heap.size + 1 + 1, 6, none⟩ = some (.int .i64 0) := by go_simp
 have og0 : w1.cell? ⟨w.heap.size + 1 + 1 + 1, 0, none⟩ = some (.int .i64 0) := by go_simp
 have og1 : w1.cell? ⟨w.heap.size + 1 + 1 + 1, 1, none⟩ = some (.int .u32 0) := by go_simp
 have og2 : w1.cell? ⟨w.heap.size + 1 + 1 + 1, 2, none⟩ = some (.int .u32 0) := by go_simp
 have og3 : w1.cell? ⟨w.heap.size + 1 + 1 + 1, 3, none⟩ = some (.bool false) := by go_simp
 have ox0 : w1.cell? ⟨w.heap.size + 1 + 1 + 1 + 1, 0, none⟩ = some (.int .i64 0) := by go_simp
 have ox1 : w1.cell? ⟨w.heap.size + 1 + 1 + 1 + 1, 1, none⟩ = some (.int .u32 0) := by go_simp
 have ox2 : w1.cell? ⟨w.heap.size + 1 + 1 + 1 + 1, 2, none⟩ = some (.int .u32 0) := by go_simp
 have ox3 : w1.cell? ⟨w.heap.size + 1 + 1 + 1 + 1, 3, none⟩ = some (.bool true) := by go_simp
 have ofr : ∀ o, w1.frozen? ⟨w.heap.size + 1 + 1, o, none⟩ = false := by intro o; go_simp
 have ofg : ∀ o, w1.frozen? ⟨w.heap.size + 1 + 1 + 1, o, none⟩ = false := by intro o; go_simp
 have ofb : ∀ o, w1.frozen? ⟨w.heap.size, o, none⟩ = false := by intro o; go_simp
 have hB1 : Below w.heap.size w w1 := ab0
 clear hcc1 hff1 hb1
 obtain ⟨w2, hw2⟩ : ∃ W : World, W = ((((((w1.setCell ⟨w.heap.size, 0, none⟩ (.slice m.mem.pA m.mem.hs.length m.mem.pc)).setCell ⟨w.heap.size, 1, none⟩ (.slice (some ⟨G, 0, none⟩) m.mem.vs.length m.mem.vs.length)).setCell ⟨w.heap.size + 1 + 1 + 1 + 1, 0, none⟩ (.int .i64 g.x.v)).setCell ⟨w.heap.size + 1 + 1 + 1 + 1, 1, none⟩ (.int .u32 g.x.r)).setCell ⟨w.heap.size + 1 + 1 + 1 + 1, 2, none⟩ (.int .u32 g.x.f)).setCell ⟨w.heap.size + 1 + 1 + 1 + 1, 3, none⟩ (.bool false)) := ⟨_, rfl⟩
 have hs2 : w2.heap.size = w1.heap.size := by rw [hw2]; simp
 have pb0 : w2.cell? ⟨w.heap.size, 0, none⟩ = some (.slice m.mem.pA m.mem.hs.length m.mem.pc) := by rw [hw2]; go_simp
 have pb1 : w2.cell? ⟨w.heap.size, 1, none⟩ = some (.slice (some ⟨G, 0, none⟩) m.mem.vs.length m.mem.vs.length) := by rw [hw2]; go_simp
 have pb2 : w2.cell? ⟨w.heap.size, 2, none⟩ = some (.slice m.ln.fA m.ln.first.length m.ln.fc) := by rw [hw2]; go_simp
 have pb3 : w2.cell? ⟨w.heap.size, 3, none⟩ = some (.slice m.ln.lA m.ln.logs.length m.ln.lc) := by rw [hw2]; go_simp
 have pb4 : w2.cell? ⟨w.heap.size, 4, none⟩ = some (.map m.ln.asks) := by rw [hw2]; go_simp
 have pb5 : w2.cell? ⟨w.heap.size, 5, none⟩ = some (.slice m.sA m.steps.length m.sc) := by rw [hw2]; go_simp
 have pb6 : w2.cell? ⟨w.heap.size, 6, none⟩ = some (.int .i64 m.crashes) := by rw [hw2]; go_simp
 have pr0 : w2.cell? ⟨w.heap.size + 1 + 1, 0, none⟩ = some (.slice none 0 0) := by rw [hw2]; go_simp
 have pr1 : w2.cell? ⟨w.heap.size + 1 + 1, 1, none⟩ = some (.slice none 0 0) := by rw [hw2]; go_simp
 have pr2 : w2.cell? ⟨w.heap.size + 1 + 1, 2, none⟩ = some (.slice none 0 0) := by rw [hw2]; go_simp
 have pr3 : w2.cell? ⟨w.heap.size + 1 + 1, 3, none⟩ = some (.slice none 0 0) := by rw [hw2]; go_simp
 have pr4 : w2.cell? ⟨w.heap.size + 1 + 1, 4, none⟩ = some (.map none) := by rw [hw2]; go_simp
 have pr5 : w2.cell? ⟨w.heap.size + 1 + 1, 5, none⟩ = some (.slice none 0 0) := by rw [hw2]; go_simp
 have pr6 : w2.cell? ⟨w.heap.size + 1 + 1, 6, none⟩ = some (.int .i64 0) := by rw [hw2]; go_simp
 have pg0 : w2.cell? ⟨w.heap.size + 1 + 1 + 1, 0, none⟩ = some (.int .i64 0) := by rw [hw2]; go_simp
 have pg1 : w2.cell? ⟨w.heap.size + 1 + 1 + 1, 1, none⟩ = some (.int .u32 0) := by rw [hw2]; go_simp
 have pg2 : w2.cell? ⟨w.heap.size + 1 + 1 + 1, 2, none⟩ = some (.int .u32 0) := by rw [hw2]; go_simp
 have pg3 : w2.cell? ⟨w.heap.size + 1 + 1 + 1, 3, none⟩ = some (.bool false) := by rw [hw2]; go_simp
 have px0 : w2.cell? ⟨w.heap.size + 1 + 1 + 1 + 1, 0, none⟩ = some (.int .i64 g.x.v) := by rw [hw2]; go_simp
 have px1 : w2.cell? ⟨w.heap.size + 1 + 1 + 1 + 1, 1, none⟩ = some (.int .u32 g.x.r) := by rw [hw2]; go_simp
 have px2 : w2.cell? ⟨w.heap.size + 1 + 1 + 1 + 1, 2, none⟩ = some (.int .u32 g.x.f) := by rw [hw2]; go_simp
 have px3 : w2.cell? ⟨w.heap.size + 1 + 1 + 1 + 1, 3, none⟩ = some (.bool false) := by rw [hw2]; go_simp
 have pfr : ∀ o, w2.frozen? ⟨w.heap.size + 1 + 1, o, none⟩ = false := by intro o; rw [hw2]; go_simp
 have pfg : ∀ o, w2.frozen? ⟨w.heap.size + 1 + 1 + 1, o, none⟩ = false := by intro o; rw [hw2]; go_simp
 have pfb : ∀ o, w2.frozen? ⟨w.heap.size, o, none⟩ = false := by intro o; rw [hw2]; go_simp
 have hB2 : Below w.heap.size w w2 := by rw [hw2]; exact (Below.setCell (Below.setCell (Below.setCell (Below.setCell (Below.setCell (Below.setCell hB1 (p := ⟨w.heap.size, 0, none⟩) (by show w.heap.size ≤ w.heap.size; omega) (.slice m.mem.pA m.mem.hs.length m.mem.pc)) (p := ⟨w.heap.size, 1, none⟩) (by show w.heap.size ≤ w.heap.size; omega) (.slice (some ⟨G, 0, none⟩) m.mem.vs.length m.mem.vs.length)) (p := ⟨w.heap.size + 1 + 1 + 1 + 1, 0, none⟩) ab23 (.int .i64 g.x.v)) (p := ⟨w.heap.size + 1 + 1 + 1 + 1, 1, none⟩) ab23 (.int .u32 g.x.r)) (p := ⟨w.heap.size + 1 + 1 + 1 + 1, 2, none⟩) ab23 (.int .u32 g.x.f)) (p := ⟨w.heap.size + 1 + 1 + 1 + 1, 3, none⟩) ab23 (.bool false))
 have oB : MachV.off (w.heap.size) (m.withMem (m.mem.with (some ⟨G, 0, none⟩) m.mem.vs.length t ⟨v', joinF (withF a.f k n) g.a.f⟩)) := MachV.withMem_off (MachV.off_new HR.out oM) (MemV.off_with (MemV.off_new HR.out.1 oM) oM)
 have oR : MachV.off (w.heap.size + 1 + 1) (m.withMem (m.mem.with (some ⟨G, 0, none⟩) m.mem.vs.length t ⟨v', joinF (withF a.f k n) g.a.f⟩)) := MachV.withMem_off (MachV.off_new HR.out oM) (MemV.off_with (MemV.off_new HR.out.1 oM) oM)
 have oG : MachV.off (w.heap.size + 1 + 1 + 1) (m.withMem (m.mem.with (some ⟨G, 0, none⟩) m.mem.vs.length t ⟨v', joinF (withF a.f k n) g.a.f⟩)) := MachV.withMem_off (MachV.off_new HR.out oM) (MemV.off_with (MemV.off_new HR.out.1 oM) oM)
 have oW : MachV.off (w.heap.size + 1 + 1 + 1 + 1) (m.withMem (m.mem.with (some ⟨G, 0, none⟩) m.mem.vs.length t ⟨v', joinF (withF a.f k n) g.a.f⟩)) := MachV.withMem_off (MachV.off_new HR.out oM) (MemV.off_with (MemV.off_new HR.out.1 oM) oM)
 have HM2 : Hid (MachV.R w2 (m.withMem (m.mem.with (some ⟨G, 0, none⟩) m.mem.vs.length t ⟨v', joinF (withF a.f k n) g.a.f⟩))) := hide (by rw [hw2]; exact (MachV.R.set (MachV.R.set (MachV.R.set (MachV.R.set (MachV.R.set (MachV.R.set (MachV.withMem_R HR.out hB1 Hm1.out) oB (.of ob0) (.slice m.mem.pA m.mem.hs.length m.mem.pc)) oB (.set (.of ob1) _) (.slice (some ⟨G, 0, none⟩) m.mem.vs.length m.mem.vs.length)) oW (.set (.set (.of ox0) _) _) (.int .i64 g.x.v)) oW (.set (.set (.set (.of ox1) _) _) _) (.int .u32 g.x.r)) oW (.set (.set (.set (.set (.of ox2) _) _) _) _) (.int .u32 g.x.f)) oW (.set (.set (.set (.set (.set (.of ox3) _) _) _) _) _) (.bool false)))
 have Hs2 := hide hs2
 rw [← hw2]
 clear hw2 ob0 ob1 ob2 ob3 ob4 ob5 ob6 or0 or1 or2 or3 or4 or5 or6 og0 og1 og2 og3 ox0 ox1 ox2 ox3 ofr ofg ofb Hm1
 go_wp2_with fail
 clear hs2
 refine wp_region_held_drew (S := (fun w' => (w'.cell? ⟨w.heap.size, 0, none⟩ = some (.slice m.mem.pA m.mem.hs.length m.mem.pc) ∧ w'.cell? ⟨w.heap.size, 1, none⟩ = some (.slice (some ⟨G, 0, none⟩) m.mem.vs.length m.mem.vs.length) ∧ w'.cell? ⟨w.heap.size, 2, none⟩ = some (.slice m.ln.fA m.ln.first.length m.ln.fc) ∧ w'.cell? ⟨w.heap.size, 3, none⟩ = some (.slice m.ln.lA m.ln.logs.length m.ln.lc) ∧ w'.cell? ⟨w.heap.size, 4, none⟩ = some (.map m.ln.asks) ∧ w'.cell? ⟨w.heap.size, 5, none⟩ = some (.slice m.sA m.steps.length m.sc) ∧ w'.cell? ⟨w.heap.size, 6, none⟩ = some (.int .i64 m.crashes)) ∧ (w'.cell? ⟨w.heap.size + 1 + 1 + 1 + 1, 0, none⟩ = some (.int .i64 g.x.v) ∧ w'.cell? ⟨w.heap.size + 1 + 1 + 1 + 1, 1, none⟩ = some (.int .u32 g.x.r) ∧ w'.cell? ⟨w.heap.size + 1 + 1 + 1 + 1, 2, none⟩ = some (.int .u32 g.x.f) ∧ w'.cell? ⟨w.heap.size + 1 + 1 + 1 + 1, 3, none⟩ = some (.bool false)))) kR (by first | with_reducible exact ⟨⟨pb0, pb1, pb2, pb3, pb4, pb5, pb6⟩, px0, px1, px2, px3⟩ | exact ⟨⟨by go_simp, by go_simp, by go_simp, by go_simp, by go_simp, by go_simp, by go_simp⟩, by go_simp, by go_simp, by go_simp, by go_simp⟩) (fun hHeld => ?_)
 refine tq1 0 ?_
 refine tq1 1 ?_
 refine wE 2 fun K hK => ?_
 go_simp
 go_wp2_with fail
 refine oK hK (by first | with_reducible exact ⟨⟨pb0, pb1, pb2, pb3, pb4, pb5, pb6⟩, px0, px1, px2, px3⟩ | exact ⟨⟨by go_simp, by go_simp, by go_simp, by go_simp, by go_simp, by go_simp, by go_simp⟩, by go_simp, by go_simp, by go_simp, by go_simp⟩) fun hHeld => ?_
 clear hK K
 refine wE 3 fun K hK => ?_
 go_simp
 go_wp2_with fail
 refine oK hK (by first | with_reducible exact ⟨⟨pb0, pb1, pb2, pb3, pb4, pb5, pb6⟩, px0, px1, px2, px3⟩ | exact ⟨⟨by go_simp, by go_simp, by go_simp, by go_simp, by go_simp, by go_simp, by go_simp⟩, by go_simp, by go_simp, by go_simp, by go_simp⟩) fun hHeld => ?_
 clear hK K
 refine wD ?_
 all_goals go_wp2_with fail
 all_goals have hGw : w.heap.size ≤ G := by omega
 all_goals have HZ := hide (MachV.R.set (MachV.R.set (MachV.R.set (MachV.R.set (MachV.R.set (MachV.R.set (MachV.R.set (MachV.R.set (MachV.R.set (MachV.R.set (MachV.R.set HM2.out oR (.of pr0) (.slice m.mem.pA m.mem.hs.length m.mem.pc)) oR (.set (.of pr1) _) (.slice (some ⟨G, 0, none⟩) m.mem.vs.length m.mem.vs.length)) oR (.set (.set (.of pr2) _) _) (.slice m.ln.fA m.ln.first.length m.ln.fc)) oR (.set (.set (.set (.of pr3) _) _) _) (.slice m.ln.lA m.ln.logs.length m.ln.lc)) oR (.set (.set (.set (.set (.of pr4) _) _) _) _) (.map m.ln.asks)) oR (.set (.set (.set (.set (.set (.of pr5) _) _) _) _) _) (.slice m.sA m.steps.length m.sc)) oR (.set (.set (.set (.set (.set (.set (.of pr6) _) _) _) _) _) _) (.int .i64 m.crashes)) oG (.set (.set (.set (.set (.set (.set (.set (.of pg0) _) _) _) _) _) _) _) (.int .i64 g.x.v)) oG (.set (.set (.set (.set (.set (.set (.set (.set (.of pg1) _) _) _) _) _) _) _) _) (.int .u32 g.x.r)) oG (.set (.set (.set (.set (.set (.set (.set (.set (.set (.of pg2) _) _) _) _) _) _) _) _) _) (.int .u32 g.x.f)) oG (.set (.set (.set (.set (.set (.set (.set (.set (.set (.set (.of pg3) _) _) _) _) _) _) _) _) _) _) (.bool false))
 all_goals have HB := hide (Below.setCell (Below.setCell (Below.setCell (Below.setCell (Below.setCell (Below.setCell (Below.setCell (Below.setCell (Below.setCell (Below.setCell (Below.setCell hB2 (p := ⟨w.heap.size + 1 + 1, 0, none⟩) ab4 (.slice m.mem.pA m.mem.hs.length m.mem.pc)) (p := ⟨w.heap.size + 1 + 1, 1, none⟩) ab4 (.slice (some ⟨G, 0, none⟩) m.mem.vs.length m.mem.vs.length)) (p := ⟨w.heap.size + 1 + 1, 2, none⟩) ab4 (.slice m.ln.fA m.ln.first.length m.ln.fc)) (p := ⟨w.heap.size + 1 + 1, 3, none⟩) ab4 (.slice m.ln.lA m.ln.logs.length m.ln.lc)) (p := ⟨w.heap.size + 1 + 1, 4, none⟩) ab4 (.map m.ln.asks)) (p := ⟨w.heap.size + 1 + 1, 5, none⟩) ab4 (.slice m.sA m.steps.length m.sc)) (p := ⟨w.heap.size + 1 + 1, 6, none⟩) ab4 (.int .i64 m.crashes)) (p := ⟨w.heap.size + 1 + 1 + 1, 0, none⟩) ab14 (.int .i64 g.x.v)) (p := ⟨w.heap.size + 1 + 1 + 1, 1, none⟩) ab14 (.int .u32 g.x.r)) (p := ⟨w.heap.size + 1 + 1 + 1, 2, none⟩) ab14 (.int .u32 g.x.f)) (p := ⟨w.heap.size + 1 + 1 + 1, 3, none⟩) ab14 (.bool false))
 all_goals have hLs : (m.mem.vs.set t ⟨v', joinF (withF a.f k n) g.a.f⟩).length = m.mem.vs.length := List.length_set
 all_goals refine bodyPost_ret (v := .tuple #[.agg #[.slice m.mem.pA m.mem.hs.length m.mem.pc, .slice (some ⟨G, 0, none⟩) m.mem.vs.length m.mem.vs.length, .slice m.ln.fA m.ln.first.length m.ln.fc, .slice m.ln.lA m.ln.logs.length m.ln.lc, .map m.ln.asks, .slice m.sA m.steps.length m.sc, .int .i64 m.crashes], .agg #[.int .i64 g.x.v, .int .u32 g.x.r, .int .u32 g.x.f, .bool false]]) (by simp [results, Tryz.results111, go_sem]; (try go_simp)) rfl ⟨G, v', (by simp only [maV, MachV.withMem, MemV.with, hLs]), hGw, ?_, ?_⟩
 all_goals first
  | with_reducible exact HZ.out
  | with_reducible exact HZ.out.drew
  | with_reducible exact HB.out
  | with_reducible exact HB.out.drew
theorem mach_swap_yes (m : MachV) (t k n : Nat) (act : ActV) (h : HistV) (g : MsgV) (a : VwV) (w : World) (hop : act.op = 6) (hat : act.at_ = k) (hR : m.R w) (hh : m.mem.hs[k]? = some h) (hl : h.l.length = n + 1) (hg : h.l[n]? = some g) (ha : m.mem.vs[t]? = some a) (hn : m.mem.vs.length ≤ 1000) (hL : m.mem.hs.length ≤ 4096) (hi6 : n < 1000000) (lg : LogV) (hk1 : k < m.ln.first.length) (hlg : m.ln.logs[k / 8]? = some lg) (hf : m.ln.first.length ≤ 4096) (hlo : m.ln.logs.length ≤ 4096) (hg6 : lg.l.length ≤ 1000000) (hne : eq3 g.x act.old = true) : Calls Tryz.prog 111 #[(maV m), .int .i64 ((t : Int) + 1), (avV act)] w fun e w' => ∃ g9 pc' g7 cap' G v' g1 lc' g2 cp2, e = .returned (.tuple #[(maV (⟨m.mem.swapped t k h.l act.new (withF (joinF (withF a.f k n) g.a.f) k (n + 1)) g9 pc' g7 cap' G v', m.ln.stored k lg act.new g1 lc' g2 cp2, m.sA, m.sc, m.steps, m.crashes, m.ak⟩ : MachV)), .agg #[.int .i64 g.x.v, .int .u32 g.x.r, .int .u32 g.x.f, .bool true]]) ∧ (w.heap.size ≤ g9 ∧ w.heap.size ≤ g7 ∧ w.heap.size ≤ G ∧ w.heap.size ≤ g1 ∧ w.heap.size ≤ g2) ∧ MachV.R w' (⟨m.mem.swapped t k h.l act.new (withF (joinF (withF a.f k n) g.a.f) k (n + 1)) g9 pc' g7 cap' G v', m.ln.stored k lg act.new g1 lc' g2 cp2, m.sA, m.sc, m.steps, m.crashes, m.ak⟩ : MachV) ∧ Below w.heap.size w w' := by
 try unfold avV
 obtain ⟨op, z, old, new⟩ := act
 simp only at hop hat hne
 subst hop hat
 have hsw := fun W (hw : m.mem.R W) => mem_swap_yes m.mem t k n h g a old new W hw hh hl hg ha hn hL hi6 hne
 have Hsw := hide hsw
 have HR := hide hR
 have hst := fun W (hw : m.ln.R W) => line_store m.ln k lg new W hw hk1 hlg hf hlo hg6
 have Hst := hide hst
 clear hst hk1 hlg hf hlo hg6
 clear hsw hR hh hl hg ha hn hL hi6 hne
 go_enter Tryz.func111, Tryz.ntmps111
 go_upto_region 5 with (first
  | (go_at_call 137; refine (Hsw.out _ (HR.out.1.below ab0)).mono ?_; rintro e w1 ⟨g9, pc', g7, cap', G, v', rfl, hg9, hg7, hG, hm1, hb1⟩; (try simp at hg9); (try simp at hg7); (try simp at hG); obtain ⟨hcc1, hff1, hs1⟩ := bC hb1; (try simp at hs1); have hz0 : w.heap.size < w1.heap.size := oM; have hz1 : w.heap.size + 1 < w1.heap.size := oM; have hz2 : w.heap.size + 1 + 1 < w1.heap.size := oM; have hz3 : w.heap.size + 1 + 1 + 1 < w1.heap.size := oM; have hz4 : w.heap.size + 1 + 1 + 1 + 1 < w1.heap.size := oM; have Hm1 := hide hm1; clear hm1))
 have ob0 : w1.cell? ⟨w.heap.size, 0, none⟩ = some (.slice m.mem.pA m.mem.hs.length m.mem.pc) := by go_simp
 have ob1 : w1.cell? ⟨w.heap.size, 1, none⟩ = some (.slice m.mem.vA m.mem.vs.length m.mem.vc) := by go_simp
 have ob2 : w1.cell? ⟨w.heap.size, 2, none⟩ = some (.slice m.ln.fA m.ln.first.length m.ln.fc) := by go_simp
 have ob3 : w1.cell? ⟨w.heap.size, 3, none⟩ = some (.slice m.ln.lA m.ln.logs.length m.ln.lc) := by go_simp
 have ob4 : w1.cell? ⟨w.heap.size, 4, none⟩ = some (.map m.ln.asks) := by go_simp
 have ob5 : w1.cell? ⟨w.heap.size, 5, none⟩ = some (.slice m.sA m.steps.length m.sc) := by go_simp
 have ob6 : w1.cell? ⟨w.heap.size, 6, none⟩ = some (.int .i64 m.crashes) := by go_simp
 have or0 : w1.cell? ⟨w.heap.size + 1 + 1, 0, none⟩ = some (.slice none 0 0) := by go_simp
 have or1 : w1.cell? ⟨w.heap.size + 1 + 1, 1, none⟩ = some (.slice none 0 0) := by go_simp
 have or2 : w1.cell? ⟨w.heap.size + 1 + 1, 2, none⟩ = some (.slice none 0 0) := by go_simp
 have or3 : w1.cell? ⟨w.heap.size + 1 + 1, 3, none⟩ = some (.slice none 0 0) := by go_simp
 have or4 : w1.cell? ⟨w.heap.size + 1 + 1, 4, none⟩ = some (.map none) := by go_simp
 have or5 : w1.cell? ⟨w.heap.size + 1 + 1, 5, none⟩ = some (.slice none 0 0) := by go_simp
 have or6 : w1.cell? ⟨w.heap.size + 1 + 1, 6, none⟩ = some (.int .i64 0) := by go_simp
 have og0 : w1.cell? ⟨w.heap.size + 1 + 1 + 1, 0, none⟩ = some (.int .i64 0) := by go_simp
 have og1 : w1.cell? ⟨w.heap.size + 1 + 1 + 1, 1, none⟩ = some (.int .u32 0) := by go_simp
 have og2 : w1.cell? ⟨w.heap.size + 1 + 1 + 1, 2, none⟩ = some (.int .u32 0) := by go_simp
 have og3 : w1.cell? ⟨w.heap.size + 1 + 1 + 1, 3, none⟩ = some (.bool false) := by go_simp
 have ox0 : w1.cell? ⟨w.heap.size + 1 + 1 + 1 + 1, 0, none⟩ = some (.int .i64 0) := by go_simp
 have ox1 : w1.cell? ⟨w.heap.size + 1 + 1 + 1 + 1, 1, none⟩ = some (.int .u32 0) := by go_simp
 have ox2 : w1.cell? ⟨w.heap.size + 1 + 1 + 1 + 1, 2, none⟩ = some (.int .u32 0) := by go_simp
 have ox3 : w1.cell? ⟨w.heap.size + 1 + 1 + 1 + 1, 3, none⟩ = some (.bool true) := by go_simp
 have oa0 : w1.cell? ⟨w.heap.size + 1, 0, none⟩ = some (.int .i64 6) := by go_simp
 have oa1 : w1.cell? ⟨w.heap.size + 1, 1, none⟩ = some (.int .i64 k) := by go_simp
 have oa2 : w1.cell? ⟨w.heap.size + 1, 2, none⟩ = some (.int .i64 old.v) := by go_simp
 have oa3 : w1.cell? ⟨w.heap.size + 1, 3, none⟩ = some (.int .u32 old.r) := by go_simp
 have oa4 : w1.cell? ⟨w.heap.size + 1, 4, none⟩ = some (.int .u32 old.f) := by go_simp
 have oa5 : w1.cell? ⟨w.heap.size + 1, 5, none⟩ = some (.int .i64 new.v) := by go_simp
 have oa6 : w1.cell? ⟨w.heap.size + 1, 6, none⟩ = some (.int .u32 new.r) := by go_simp
 have oa7 : w1.cell? ⟨w.heap.size + 1, 7, none⟩ = some (.int .u32 new.f) := by go_simp
 have ofr : ∀ o, w1.frozen? ⟨w.heap.size + 1 + 1, o, none⟩ = false := by intro o; go_simp
 have ofg : ∀ o, w1.frozen? ⟨w.heap.size + 1 + 1 + 1, o, none⟩ = false := by intro o; go_simp
 have ofb : ∀ o, w1.frozen? ⟨w.heap.size, o, none⟩ = false := by intro o; go_simp
 have hB1 : Below w.heap.size w w1 := ab0
 clear hcc1 hff1 hb1
 obtain ⟨w2, hw2⟩ : ∃ W : World, W = ((((((w1.setCell ⟨w.heap.size, 0, none⟩ (.slice (some ⟨g9, 0, none⟩) m.mem.hs.length pc')).setCell ⟨w.heap.size, 1, none⟩ (.slice (some ⟨G, 0, none⟩) m.mem.vs.length m.mem.vs.length)).setCell ⟨w.heap.size + 1 + 1 + 1 + 1, 0, none⟩ (.int .i64 g.x.v)).setCell ⟨w.heap.size + 1 + 1 + 1 + 1, 1, none⟩ (.int .u32 g.x.r)).setCell ⟨w.heap.size + 1 + 1 + 1 + 1, 2, none⟩ (.int .u32 g.x.f)).setCell ⟨w.heap.size + 1 + 1 + 1 + 1, 3, none⟩ (.bool true)) := ⟨_, rfl⟩
 have hs2 : w2.heap.size = w1.heap.size := by rw [hw2]; simp
 have pb0 : w2.cell? ⟨w.heap.size, 0, none⟩ = some (.slice (some ⟨g9, 0, none⟩) m.mem.hs.length pc') := by rw [hw2]; go_simp
 have pb1 : w2.cell? ⟨w.heap.size, 1, none⟩ = some (.slice (some ⟨G, 0, none⟩) m.mem.vs.length m.mem.vs.length) := by rw [hw2]; go_simp
 have pb2 : w2.cell? ⟨w.heap.size, 2, none⟩ = some (.slice m.ln.fA m.ln.first.length m.ln.fc) := by rw [hw2]; go_simp
 have pb3 : w2.cell? ⟨w.heap.size, 3, none⟩ = some (.slice m.ln.lA m.ln.logs.length m.ln.lc) := by rw [hw2]; go_simp
 have pb4 : w2.cell? ⟨w.heap.size, 4, none⟩ = some (.map m.ln.asks) := by rw [hw2]; go_simp
 have pb5 : w2.cell? ⟨w.heap.size, 5, none⟩ = some (.slice m.sA m.steps.length m.sc) := by rw [hw2]; go_simp
 have pb6 : w2.cell? ⟨w.heap.size, 6, none⟩ = some (.int .i64 m.crashes) := by rw [hw2]; go_simp
 have pr0 : w2.cell? ⟨w.heap.size + 1 + 1, 0, none⟩ = some (.slice none 0 0) := by rw [hw2]; go_simp
 have pr1 : w2.cell? ⟨w.heap.size + 1 + 1, 1, none⟩ = some (.slice none 0 0) := by rw [hw2]; go_simp
 have pr2 : w2.cell? ⟨w.heap.size + 1 + 1, 2, none⟩ = some (.slice none 0 0) := by rw [hw2]; go_simp
 have pr3 : w2.cell? ⟨w.heap.size + 1 + 1, 3, none⟩ = some (.slice none 0 0) := by rw [hw2]; go_simp
 have pr4 : w2.cell? ⟨w.heap.size + 1 + 1, 4, none⟩ = some (.map none) := by rw [hw2]; go_simp
 have pr5 : w2.cell? ⟨w.heap.size + 1 + 1, 5, none⟩ = some (.slice none 0 0) := by rw [hw2]; go_simp
 have pr6 : w2.cell? ⟨w.heap.size + 1 + 1, 6, none⟩ = some (.int .i64 0) := by rw [hw2]; go_simp
 have pg0 : w2.cell? ⟨w.heap.size + 1 + 1 + 1, 0, none⟩ = some (.int .i64 0) := by rw [hw2]; go_simp
 have pg1 : w2.cell? ⟨w.heap.size + 1 + 1 + 1, 1, none⟩ = some (.int .u32 0) := by rw [hw2]; go_simp
 have pg2 : w2.cell? ⟨w.heap.size + 1 + 1 + 1, 2, none⟩ = some (.int .u32 0) := by rw [hw2]; go_simp
 have pg3 : w2.cell? ⟨w.heap.size + 1 + 1 + 1, 3, none⟩ = some (.bool false) := by rw [hw2]; go_simp
 have px0 : w2.cell? ⟨w.heap.size + 1 + 1 + 1 + 1, 0, none⟩ = some (.int .i64 g.x.v) := by rw [hw2]; go_simp
 have px1 : w2.cell? ⟨w.heap.size + 1 + 1 + 1 + 1, 1, none⟩ = some (.int .u32 g.x.r) := by rw [hw2]; go_simp
 have px2 : w2.cell? ⟨w.heap.size + 1 + 1 + 1 + 1, 2, none⟩ = some (.int .u32 g.x.f) := by rw [hw2]; go_simp
 have px3 : w2.cell? ⟨w.heap.size + 1 + 1 + 1 + 1, 3, none⟩ = some (.bool true) := by rw [hw2]; go_simp
 have pa0 : w2.cell? ⟨w.heap.size + 1, 0, none⟩ = some (.int .i64 6) := by rw [hw2]; go_simp
 have pa1 : w2.cell? ⟨w.heap.size + 1, 1, none⟩ = some (.int .i64 k) := by rw [hw2]; go_simp
 have pa2 : w2.cell? ⟨w.heap.size + 1, 2, none⟩ = some (.int .i64 old.v) := by rw [hw2]; go_simp
 have pa3 : w2.cell? ⟨w.heap.size + 1, 3, none⟩ = some (.int .u32 old.r) := by rw [hw2]; go_simp
 have pa4 : w2.cell? ⟨w.heap.size + 1, 4, none⟩ = some (.int .u32 old.f) := by rw [hw2]; go_simp
 have pa5 : w2.cell? ⟨w.heap.size + 1, 5, none⟩ = some (.int .i64 new.v) := by rw [hw2]; go_simp
 have pa6 : w2.cell? ⟨w.heap.size + 1, 6, none⟩ = some (.int .u32 new.r) := by rw [hw2]; go_simp
 have pa7 : w2.cell? ⟨w.heap.size + 1, 7, none⟩ = some (.int .u32 new.f) := by rw [hw2]; go_simp
 have pfr : ∀ o, w2.frozen? ⟨w.heap.size + 1 + 1, o, none⟩ = false := by intro o; rw [hw2]; go_simp
 have pfg : ∀ o, w2.frozen? ⟨w.heap.size + 1 + 1 + 1, o, none⟩ = false := by intro o; rw [hw2]; go_simp
 have pfb : ∀ o, w2.frozen? ⟨w.heap.size, o, none⟩ = false := by intro o; rw [hw2]; go_simp
 have hB2 : Below w.heap.size w w2 := by rw [hw2]; exact (Below.setCell (Below.setCell (Below.setCell (Below.setCell (Below.setCell (Below.setCell hB1 (p := ⟨w.heap.size, 0, none⟩) (by show w.heap.size ≤ w.heap.size; omega) (.slice (some ⟨g9, 0, none⟩) m.mem.hs.length pc')) (p := ⟨w.heap.size, 1, none⟩) (by show w.heap.size ≤ w.heap.size; omega) (.slice (some ⟨G, 0, none⟩) m.mem.vs.length m.mem.vs.length)) (p := ⟨w.heap.size + 1 + 1 + 1 + 1, 0, none⟩) ab23 (.int .i64 g.x.v)) (p := ⟨w.heap.size + 1 + 1 + 1 + 1, 1, none⟩) ab23 (.int .u32 g.x.r)) (p := ⟨w.heap.size + 1 + 1 + 1 + 1, 2, none⟩) ab23 (.int .u32 g.x.f)) (p := ⟨w.heap.size + 1 + 1 + 1 + 1, 3, none⟩) ab23 (.bool true))
 have moB : MemV.off (w.heap.size) (m.mem.swapped t k h.l new (withF (joinF (withF a.f k n) g.a.f) k (n + 1)) g9 pc' g7 cap' G v') := MemV.off_swapped (MemV.off_new HR.out.1 oM) oM oM oM
 have moW : MemV.off (w.heap.size + 1 + 1 + 1 + 1) (m.mem.swapped t k h.l new (withF (joinF (withF a.f k n) g.a.f) k (n + 1)) g9 pc' g7 cap' G v') := MemV.off_swapped (MemV.off_new HR.out.1 oM) oM oM oM
 have HM2 : Hid (MemV.R w2 (m.mem.swapped t k h.l new (withF (joinF (withF a.f k n) g.a.f) k (n + 1)) g9 pc' g7 cap' G v')) := hide (by rw [hw2]; exact (MemV.R.set (MemV.R.set (MemV.R.set (MemV.R.set (MemV.R.set (MemV.R.set Hm1.out moB (.of ob0) (.slice (some ⟨g9, 0, none⟩) m.mem.hs.length pc')) moB (.set (.of ob1) _) (.slice (some ⟨G, 0, none⟩) m.mem.vs.length m.mem.vs.length)) moW (.set (.set (.of ox0) _) _) (.int .i64 g.x.v)) moW (.set (.set (.set (.of ox1) _) _) _) (.int .u32 g.x.r)) moW (.set (.set (.set (.set (.of ox2) _) _) _) _) (.int .u32 g.x.f)) moW (.set (.set (.set (.set (.set (.of ox3) _) _) _) _) _) (.bool true)))
 have Hs2 := hide hs2
 rw [← hw2]
 clear hw2 ob0 ob1 ob2 ob3 ob4 ob5 ob6 or0 or1 or2 or3 or4 or5 or6 og0 og1 og2 og3 ox0 ox1 ox2 ox3 oa0 oa1 oa2 oa3 oa4 oa5 oa6 oa7 ofr ofg ofb Hm1
 have hy0 : w.heap.size < w2.heap.size := oM
 have hy1 : w.heap.size + 1 < w2.heap.size := oM
 have hy2 : w.heap.size + 1 + 1 < w2.heap.size := oM
 have hy3 : w.heap.size + 1 + 1 + 1 < w2.heap.size := oM
 have hy4 : w.heap.size + 1 + 1 + 1 + 1 < w2.heap.size := oM
 clear hs2
 go_wp2_with (first
  | (go_at_call 139; refine (Hst.out _ (HR.out.2.1.below ab0)).mono ?_; rintro e w3 ⟨g1, lc', g2, cp2, rfl, hg1, hg2, hln3, hb3⟩; have hs3 := hb3.size; have Hln3 := hide hln3; clear hln3; have qb0 := (hb3.cell (p := ⟨w.heap.size, 0, none⟩) hy0).trans pb0; have qb1 := (hb3.cell (p := ⟨w.heap.size, 1, none⟩) hy0).trans pb1; have qb2 := (hb3.cell (p := ⟨w.heap.size, 2, none⟩) hy0).trans pb2; have qb3 := (hb3.cell (p := ⟨w.heap.size, 3, none⟩) hy0).trans pb3; have qb4 := (hb3.cell (p := ⟨w.heap.size, 4, none⟩) hy0).trans pb4; have qb5 := (hb3.cell (p := ⟨w.heap.size, 5, none⟩) hy0).trans pb5; have qb6 := (hb3.cell (p := ⟨w.heap.size, 6, none⟩) hy0).trans pb6; have qr0 := (hb3.cell (p := ⟨w.heap.size + 1 + 1, 0, none⟩) hy2).trans pr0; have qr1 := (hb3.cell (p := ⟨w.heap.size + 1 + 1, 1, none⟩) hy2).trans pr1; have qr2 := (hb3.cell (p := ⟨w.heap.size + 1 + 1, 2, none⟩) hy2).trans pr2; have qr3 := (hb3.cell (p := ⟨w.heap.size + 1 + 1, 3, none⟩) hy2).trans pr3; have qr4 := (hb3.cell (p := ⟨w.heap.size + 1 + 1, 4, none⟩) hy2).trans pr4; have qr5 := (hb3.cell (p := ⟨w.heap.size + 1 + 1, 5, none⟩) hy2).trans pr5; have qr6 := (hb3.cell (p := ⟨w.heap.size + 1 + 1, 6, none⟩) hy2).trans pr6; have qg0 := (hb3.cell (p := ⟨w.heap.size + 1 + 1 + 1, 0, none⟩) hy3).trans pg0; have qg1 := (hb3.cell (p := ⟨w.heap.size + 1 + 1 + 1, 1, none⟩) hy3).trans pg1; have qg2 := (hb3.cell (p := ⟨w.heap.size + 1 + 1 + 1, 2, none⟩) hy3).trans pg2; have qg3 := (hb3.cell (p := ⟨w.heap.size + 1 + 1 + 1, 3, none⟩) hy3).trans pg3; have qx0 := (hb3.cell (p := ⟨w.heap.size + 1 + 1 + 1 + 1, 0, none⟩) hy4).trans px0; have qx1 := (hb3.cell (p := ⟨w.heap.size + 1 + 1 + 1 + 1, 1, none⟩) hy4).trans px1; have qx2 := (hb3.cell (p := ⟨w.heap.size + 1 + 1 + 1 + 1, 2, none⟩) hy4).trans px2; have qx3 := (hb3.cell (p := ⟨w.heap.size + 1 + 1 + 1 + 1, 3, none⟩) hy4).trans px3; have qfr : ∀ o, w3.frozen? ⟨w.heap.size + 1 + 1, o, none⟩ = false := (fun o => (hb3.frozen (p := ⟨w.heap.size + 1 + 1, o, none⟩) hy2).trans (pfr o)); have qfg : ∀ o, w3.frozen? ⟨w.heap.size + 1 + 1 + 1, o, none⟩ = false := (fun o => (hb3.frozen (p := ⟨w.heap.size + 1 + 1 + 1, o, none⟩) hy3).trans (pfg o)); have qfb : ∀ o, w3.frozen? ⟨w.heap.size, o, none⟩ = false := (fun o => (hb3.frozen (p := ⟨w.heap.size, o, none⟩) hy0).trans (pfb o)); clear pb0 pb1 pb2 pb3 pb4 pb5 pb6 pr0 pr1 pr2 pr3 pr4 pr5 pr6 pg0 pg1 pg2 pg3 px0 px1 px2 px3 pa0 pa1 pa2 pa3 pa4 pa5 pa6 pa7 pfr pfg pfb))
 have oB : MachV.off (w.heap.size) (⟨(m.mem.swapped t k h.l new (withF (joinF (withF a.f k n) g.a.f) k (n + 1)) g9 pc' g7 cap' G v'), m.ln.stored k lg new g1 lc' g2 cp2, m.sA, m.sc, m.steps, m.crashes, m.ak⟩ : MachV) := ⟨MemV.off_swapped (MemV.off_new HR.out.1 oM) oM oM oM, LinesV.off_stored (LinesV.off_new HR.out.2.1 oM) oM oM, OffC.new HR.out.2.2.2.2.1 oM, (MachV.off_new HR.out oM).2.2.2⟩
 have oR : MachV.off (w.heap.size + 1 + 1) (⟨(m.mem.swapped t k h.l new (withF (joinF (withF a.f k n) g.a.f) k (n + 1)) g9 pc' g7 cap' G v'), m.ln.stored k lg new g1 lc' g2 cp2, m.sA, m.sc, m.steps, m.crashes, m.ak⟩ : MachV) := ⟨MemV.off_swapped (MemV.off_new HR.out.1 oM) oM oM oM, LinesV.off_stored (LinesV.off_new HR.out.2.1 oM) oM oM, OffC.new HR.out.2.2.2.2.1 oM, (MachV.off_new HR.out oM).2.2.2⟩
 have oG : MachV.off (w.heap.size + 1 + 1 + 1) (⟨(m.mem.swapped t k h.l new (withF (joinF (withF a.f k n) g.a.f) k (n + 1)) g9 pc' g7 cap' G v'), m.ln.stored k lg new g1 lc' g2 cp2, m.sA, m.sc, m.steps, m.crashes, m.ak⟩ : MachV) := ⟨MemV.off_swapped (MemV.off_new HR.out.1 oM) oM oM oM, LinesV.off_stored (LinesV.off_new HR.out.2.1 oM) oM oM, OffC.new HR.out.2.2.2.2.1 oM, (MachV.off_new HR.out oM).2.2.2⟩
 have oW : MachV.off (w.heap.size + 1 + 1 + 1 + 1) (⟨(m.mem.swapped t k h.l new (withF (joinF (withF a.f k n) g.a.f) k (n + 1)) g9 pc' g7 cap' G v'), m.ln.stored k lg new g1 lc' g2 cp2, m.sA, m.sc, m.steps, m.crashes, m.ak⟩ : MachV) := ⟨MemV.off_swapped (MemV.off_new HR.out.1 oM) oM oM oM, LinesV.off_stored (LinesV.off_new HR.out.2.1 oM) oM oM, OffC.new HR.out.2.2.2.2.1 oM, (MachV.off_new HR.out oM).2.2.2⟩
 have hB3 : Below w.heap.size w w3 := hB2.trans (hb3.mono oM)
 have HM3 : Hid (MachV.R w3 (⟨(m.mem.swapped t k h.l new (withF (joinF (withF a.f k n) g.a.f) k (n + 1)) g9 pc' g7 cap' G v'), m.ln.stored k lg new g1 lc' g2 cp2, m.sA, m.sc, m.steps, m.crashes, m.ak⟩ : MachV)) := hide ⟨HM2.out.below hb3, Hln3.out, (HR.out.below hB3).2.2⟩
 obtain ⟨w4, hw4⟩ : ∃ W : World, W = (((w3.setCell ⟨w.heap.size, 2, none⟩ (.slice m.ln.fA m.ln.first.length m.ln.fc)).setCell ⟨w.heap.size, 3, none⟩ (.slice (some ⟨g1, 0, none⟩) m.ln.logs.length lc')).setCell ⟨w.heap.size, 4, none⟩ (.map m.ln.asks)) := ⟨_, rfl⟩
 have ub0 : w4.cell? ⟨w.heap.size, 0, none⟩ = some (.slice (some ⟨g9, 0, none⟩) m.mem.hs.length pc') := by rw [hw4]; go_simp
 have ub1 : w4.cell? ⟨w.heap.size, 1, none⟩ = some (.slice (some ⟨G, 0, none⟩) m.mem.vs.length m.mem.vs.length) := by rw [hw4]; go_simp
 have ub2 : w4.cell? ⟨w.heap.size, 2, none⟩ = some (.slice m.ln.fA m.ln.first.length m.ln.fc) := by rw [hw4]; go_simp
 have ub3 : w4.cell? ⟨w.heap.size, 3, none⟩ = some (.slice (some ⟨g1, 0, none⟩) m.ln.logs.length lc') := by rw [hw4]; go_simp
 have ub4 : w4.cell? ⟨w.heap.size, 4, none⟩ = some (.map m.ln.asks) := by rw [hw4]; go_simp
 have ub5 : w4.cell? ⟨w.heap.size, 5, none⟩ = some (.slice m.sA m.steps.length m.sc) := by rw [hw4]; go_simp
 have ub6 : w4.cell? ⟨w.heap.size, 6, none⟩ = some (.int .i64 m.crashes) := by rw [hw4]; go_simp
 have ur0 : w4.cell? ⟨w.heap.size + 1 + 1, 0, none⟩ = some (.slice none 0 0) := by rw [hw4]; go_simp
 have ur1 : w4.cell? ⟨w.heap.size + 1 + 1, 1, none⟩ = some (.slice none 0 0) := by rw [hw4]; go_simp
 have ur2 : w4.cell? ⟨w.heap.size + 1 + 1, 2, none⟩ = some (.slice none 0 0) := by rw [hw4]; go_simp
 have ur3 : w4.cell? ⟨w.heap.size + 1 + 1, 3, none⟩ = some (.slice none 0 0) := by rw [hw4]; go_simp
 have ur4 : w4.cell? ⟨w.heap.size + 1 + 1, 4, none⟩ = some (.map none) := by rw [hw4]; go_simp
 have ur5 : w4.cell? ⟨w.heap.size + 1 + 1, 5, none⟩ = some (.slice none 0 0) := by rw [hw4]; go_simp
 have ur6 : w4.cell? ⟨w.heap.size + 1 + 1, 6, none⟩ = some (.int .i64 0) := by rw [hw4]; go_simp
 have ug0 : w4.cell? ⟨w.heap.size + 1 + 1 + 1, 0, none⟩ = some (.int .i64 0) := by rw [hw4]; go_simp
 have ug1 : w4.cell? ⟨w.heap.size + 1 + 1 + 1, 1, none⟩ = some (.int .u32 0) := by rw [hw4]; go_simp
 have ug2 : w4.cell? ⟨w.heap.size + 1 + 1 + 1, 2, none⟩ = some (.int .u32 0) := by rw [hw4]; go_simp
 have ug3 : w4.cell? ⟨w.heap.size + 1 + 1 + 1, 3, none⟩ = some (.bool false) := by rw [hw4]; go_simp
 have ux0 : w4.cell? ⟨w.heap.size + 1 + 1 + 1 + 1, 0, none⟩ = some (.int .i64 g.x.v) := by rw [hw4]; go_simp
 have ux1 : w4.cell? ⟨w.heap.size + 1 + 1 + 1 + 1, 1, none⟩ = some (.int .u32 g.x.r) := by rw [hw4]; go_simp
 have ux2 : w4.cell? ⟨w.heap.size + 1 + 1 + 1 + 1, 2, none⟩ = some (.int .u32 g.x.f) := by rw [hw4]; go_simp
 have ux3 : w4.cell? ⟨w.heap.size + 1 + 1 + 1 + 1, 3, none⟩ = some (.bool true) := by rw [hw4]; go_simp
 have ufr : ∀ o, w4.frozen? ⟨w.heap.size + 1 + 1, o, none⟩ = false := by intro o; rw [hw4]; go_simp
 have ufg : ∀ o, w4.frozen? ⟨w.heap.size + 1 + 1 + 1, o, none⟩ = false := by intro o; rw [hw4]; go_simp
 have HM4 : Hid (MachV.R w4 (⟨(m.mem.swapped t k h.l new (withF (joinF (withF a.f k n) g.a.f) k (n + 1)) g9 pc' g7 cap' G v'), m.ln.stored k lg new g1 lc' g2 cp2, m.sA, m.sc, m.steps, m.crashes, m.ak⟩ : MachV)) := hide (by rw [hw4]; exact (MachV.R.set (MachV.R.set (MachV.R.set HM3.out oB (.of qb2) (.slice m.ln.fA m.ln.first.length m.ln.fc)) oB (.set (.of qb3) _) (.slice (some ⟨g1, 0, none⟩) m.ln.logs.length lc')) oB (.set (.set (.of qb4) _) _) (.map m.ln.asks)))
 have hB4 : Below w.heap.size w w4 := by rw [hw4]; exact (Below.setCell (Below.setCell (Below.setCell hB3 (p := ⟨w.heap.size, 2, none⟩) (by show w.heap.size ≤ w.heap.size; omega) (.slice m.ln.fA m.ln.first.length m.ln.fc)) (p := ⟨w.heap.size, 3, none⟩) (by show w.heap.size ≤ w.heap.size; omega) (.slice (some ⟨g1, 0, none⟩) m.ln.logs.length lc')) (p := ⟨w.heap.size, 4, none⟩) (by show w.heap.size ≤ w.heap.size; omega) (.map m.ln.asks))
 rw [← hw4]
 clear hw4 qb0 qb1 qb2 qb3 qb4 qb5 qb6 qr0 qr1 qr2 qr3 qr4 qr5 qr6 qg0 qg1 qg2 qg3 qx0 qx1 qx2 qx3 qfr qfg qfb
 refine wp_region_held_drew (S := (fun w' => (w'.cell? ⟨w.heap.size, 0, none⟩ = some (.slice (some ⟨g9, 0, none⟩) m.mem.hs.length pc') ∧ w'.cell? ⟨w.heap.size, 1, none⟩ = some (.slice (some ⟨G, 0, none⟩) m.mem.vs.length m.mem.vs.length) ∧ w'.cell? ⟨w.heap.size, 2, none⟩ = some (.slice m.ln.fA m.ln.first.length m.ln.fc) ∧ w'.cell? ⟨w.heap.size, 3, none⟩ = some (.slice (some ⟨g1, 0, none⟩) m.ln.logs.length lc') ∧ w'.cell? ⟨w.heap.size, 4, none⟩ = some (.map m.ln.asks) ∧ w'.cell? ⟨w.heap.size, 5, none⟩ = some (.slice m.sA m.steps.length m.sc) ∧ w'.cell? ⟨w.heap.size, 6, none⟩ = some (.int .i64 m.crashes)) ∧ (w'.cell? ⟨w.heap.size + 1 + 1 + 1 + 1, 0, none⟩ = some (.int .i64 g.x.v) ∧ w'.cell? ⟨w.heap.size + 1 + 1 + 1 + 1, 1, none⟩ = some (.int .u32 g.x.r) ∧ w'.cell? ⟨w.heap.size + 1 + 1 + 1 + 1, 2, none⟩ = some (.int .u32 g.x.f) ∧ w'.cell? ⟨w.heap.size + 1 + 1 + 1 + 1, 3, none⟩ = some (.bool true)))) kR ab6 (fun hHeld => ?_)
 refine tq1 0 ?_
 refine tq1 1 ?_
 refine wE 2 fun K hK => ?_
 go_simp
 go_wp2_with fail
 refine oK hK ab6 fun hHeld => ?_
 clear hK K
 refine wE 3 fun K hK => ?_
 go_simp
 go_wp2_with fail
 refine oK hK ab6 fun hHeld => ?_
 clear hK K
 refine wD ?_
 all_goals go_wp2_with fail
 all_goals have hGw : w.heap.size ≤ G := by omega
 all_goals have HZ := hide (MachV.R.set (MachV.R.set (MachV.R.set (MachV.R.set (MachV.R.set (MachV.R.set (MachV.R.set (MachV.R.set (MachV.R.set (MachV.R.set (MachV.R.set HM4.out oR (.of ur0) (.slice (some ⟨g9, 0, none⟩) m.mem.hs.length pc')) oR (.set (.of ur1) _) (.slice (some ⟨G, 0, none⟩) m.mem.vs.length m.mem.vs.length)) oR (.set (.set (.of ur2) _) _) (.slice m.ln.fA m.ln.first.length m.ln.fc)) oR (.set (.set (.set (.of ur3) _) _) _) (.slice (some ⟨g1, 0, none⟩) m.ln.logs.length lc')) oR (.set (.set (.set (.set (.of ur4) _) _) _) _) (.map m.ln.asks)) oR (.set (.set (.set (.set (.set (.of ur5) _) _) _) _) _) (.slice m.sA m.steps.length m.sc)) oR (.set (.set (.set (.set (.set (.set (.of ur6) _) _) _) _) _) _) (.int .i64 m.crashes)) oG (.set (.set (.set (.set (.set (.set (.set (.of ug0) _) _) _) _) _) _) _) (.int .i64 g.x.v)) oG (.set (.set (.set (.set (.set (.set (.set (.set (.of ug1) _) _) _) _) _) _) _) _) (.int .u32 g.x.r)) oG (.set (.set (.set (.set (.set (.set (.set (.set (.set (.of ug2) _) _) _) _) _) _) _) _) _) (.int .u32 g.x.f)) oG (.set (.set (.set (.set (.set (.set (.set (.set (.set (.set (.of ug3) _) _) _) _) _) _) _) _) _) _) (.bool true))
 all_goals have HB := hide (Below.setCell (Below.setCell (Below.setCell (Below.setCell (Below.setCell (Below.setCell (Below.setCell (Below.setCell (Below.setCell (Below.setCell (Below.setCell hB4 (p := ⟨w.heap.size + 1 + 1, 0, none⟩) ab4 (.slice (some ⟨g9, 0, none⟩) m.mem.hs.length pc')) (p := ⟨w.heap.size + 1 + 1, 1, none⟩) ab4 (.slice (some ⟨G, 0, none⟩) m.mem.vs.length m.mem.vs.length)) (p := ⟨w.heap.size + 1 + 1, 2, none⟩) ab4 (.slice m.ln.fA m.ln.first.length m.ln.fc)) (p := ⟨w.heap.size + 1 + 1, 3, none⟩) ab4 (.slice (some ⟨g1, 0, none⟩) m.ln.logs.length lc')) (p := ⟨w.heap.size + 1 + 1, 4, none⟩) ab4 (.map m.ln.asks)) (p := ⟨w.heap.size + 1 + 1, 5, none⟩) ab4 (.slice m.sA m.steps.length m.sc)) (p := ⟨w.heap.size + 1 + 1, 6, none⟩) ab4 (.int .i64 m.crashes)) (p := ⟨w.heap.size + 1 + 1 + 1, 0, none⟩) ab14 (.int .i64 g.x.v)) (p := ⟨w.heap.size + 1 + 1 + 1, 1, none⟩) ab14 (.int .u32 g.x.r)) (p := ⟨w.heap.size + 1 + 1 + 1, 2, none⟩) ab14 (.int .u32 g.x.f)) (p := ⟨w.heap.size + 1 + 1 + 1, 3, none⟩) ab14 (.bool true))
 all_goals have hbb : w.heap.size ≤ g9 ∧ w.heap.size ≤ g7 ∧ w.heap.size ≤ G ∧ w.heap.size ≤ g1 ∧ w.heap.size ≤ g2 := ⟨by omega, by omega, by omega, by omega, by omega⟩
 all_goals have hLs : (m.mem.vs.set t ⟨v', withF (joinF (withF a.f k n) g.a.f) k (n + 1)⟩).length = m.mem.vs.length := List.length_set
 all_goals have hLh : (m.mem.hs.set k ⟨some ⟨g7, 0, none⟩, cap', h.l ++ [⟨new, (t : Int) + 1, ⟨v', withF (joinF (withF a.f k n) g.a.f) k (n + 1)⟩⟩]⟩).length = m.mem.hs.length := List.length_set
 all_goals have hLl : (m.ln.logs.set (k / 8) ⟨some ⟨g2, 0, none⟩, cp2, lg.l ++ [((k : Int), new)], lg.kept⟩).length = m.ln.logs.length := List.length_set
 all_goals refine bodyPost_ret (v := .tuple #[.agg #[.slice (some ⟨g9, 0, none⟩) m.mem.hs.length pc', .slice (some ⟨G, 0, none⟩) m.mem.vs.length m.mem.vs.length, .slice m.ln.fA m.ln.first.length m.ln.fc, .slice (some ⟨g1, 0, none⟩) m.ln.logs.length lc', .map m.ln.asks, .slice m.sA m.steps.length m.sc, .int .i64 m.crashes], .agg #[.int .i64 g.x.v, .int .u32 g.x.r, .int .u32 g.x.f, .bool true]]) (by simp [results, Tryz.results111, go_sem]; (try go_simp)) rfl ⟨g9, pc', g7, cap', G, v', g1, lc', g2, cp2, (by simp only [maV, MemV.swapped, LinesV.stored, MemV.with, hLs, hLh, hLl]), hbb, ?_, ?_⟩
 all_goals first
  | with_reducible exact HZ.out
  | with_reducible exact HZ.out.drew
  | with_reducible exact HB.out
  | with_reducible exact HB.out.drew
def toldF (b : Bool) (f : Int → Int) (k n : Int) : Int → Int := if b then withF f k n else withF (fun _ => 0) k n
def MemV.added (m : MemV) (t k : Nat) (l : List MsgV) (x : W3) (f ft : Int → Int) (g9 pc' g7 cap' G : Nat) (v' vt : Option Nat) : MemV := MemV.with ⟨some ⟨g9, 0, none⟩, pc', m.hs.set k ⟨some ⟨g7, 0, none⟩, cap', l ++ [⟨x, (t : Int) + 1, ⟨vt, ft⟩⟩]⟩, m.vA, m.vc, m.vs⟩ (some ⟨G, 0, none⟩) m.vs.length t ⟨v', f⟩
theorem MemV.off_added {m : MemV} {t k : Nat} {l : List MsgV} {y : W3} {f ft : Int → Int} {g9 pc' g7 cap' G C : Nat} {v' vt : Option Nat} (h : m.off C) (h1 : g9 ≠ C) (h2 : g7 ≠ C) (h3 : G ≠ C) : (m.added t k l y f ft g9 pc' g7 cap' G v' vt).off C := MemV.off_with (MemV.off_put h h1 h2) h3
theorem mem_addsB (b : Bool) (m : MemV) (t k : Nat) (h : HistV) (a : VwV) (x : W3) (w : World) (hR : m.R w) (hh : m.hs[k]? = some h) (ha : m.vs[t]? = some a) (hn : m.vs.length ≤ 1000) (hL : m.hs.length ≤ 4096) (hl6 : h.l.length ≤ 1000000) :
  Calls Tryz.prog 154 #[(.agg #[.slice (m).pA (m).hs.length (m).pc, .slice (m).vA (m).vs.length (m).vc]), .int .i64 ((t : Int) + 1), .int .i64 k, (w3V x), .bool b] w fun e w' => ∃ g9 pc' g7 cap' G v' vt, e = .returned (.agg #[.slice (some ⟨g9, 0, none⟩) m.hs.length pc', .slice (some ⟨G, 0, none⟩) m.vs.length m.vs.length]) ∧ w.heap.size ≤ g9 ∧ w.heap.size ≤ g7 ∧ w.heap.size ≤ G ∧ (m.added t k h.l x (withF a.f k h.l.length) (toldF b a.f k h.l.length) g9 pc' g7 cap' G v' vt).R w' ∧ Below w.heap.size w w' := by
 cases b
 ·exact mem_adds_no m t k h a x w hR hh ha hn hL hl6
 ·refine (mem_adds m t k h a x w hR hh ha hn hL hl6).mono ?_
  rintro e w' ⟨g9, pc', g7, cap', G, v', h1, h2, h3, h4, h5, h6⟩
  exact ⟨g9, pc', g7, cap', G, v', v', h1, h2, h3, h4, h5, h6⟩
theorem mem_Store (b : Bool) (m : MemV) (t k : Nat) (h : HistV) (a : VwV) (x : W3) (w : World) (hR : m.R w) (hh : m.hs[k]? = some h) (ha : m.vs[t]? = some a) (hn : m.vs.length ≤ 1000) (hL : m.hs.length ≤ 4096) (hl6 : h.l.length ≤ 1000000) :
  Calls Tryz.prog 138 #[(.agg #[.slice (m).pA (m).hs.length (m).pc, .slice (m).vA (m).vs.length (m).vc]), .int .i64 ((t : Int) + 1), .int .i64 k, (w3V x), .bool b] w fun e w' => ∃ g9 pc' g7 cap' G v' vt, e = .returned (.tuple #[.agg #[.slice (some ⟨g9, 0, none⟩) m.hs.length pc', .slice (some ⟨G, 0, none⟩) m.vs.length m.vs.length], .int .i64 0]) ∧ w.heap.size ≤ g9 ∧ w.heap.size ≤ g7 ∧ w.heap.size ≤ G ∧ (m.added t k h.l x (withF a.f k h.l.length) (toldF b a.f k h.l.length) g9 pc' g7 cap' G v' vt).R w' ∧ Below w.heap.size w w' := by
 have hkn : k < m.hs.length := (List.getElem?_eq_some_iff.1 hh).1
 have htn : t < m.vs.length := (List.getElem?_eq_some_iff.1 ha).1
 have hadds := fun W (hw : m.R W) => mem_addsB b m t k h a x W hw hh ha hn hL hl6
 have hwrong := fun W => mem_wrong m ((t : Int) + 1) k W oM oM oM oM
 have Hadds := hide hadds
 have Hwrong := hide hwrong
 have HR := hide hR
 clear hadds hwrong hR hh ha hn hL hl6 hkn htn
 go_enter Tryz.func138, Tryz.ntmps138
 go_wp2_with (first
  | (go_at_call 155; refine (Hwrong.out _).mono ?_; rintro e w1 ⟨rfl, hb1⟩; obtain ⟨hcc1, hff1, hs1⟩ := bC hb1; (try simp at hs1); have hz1 : w.heap.size < w1.heap.size := oM; have hz1a : w.heap.size + 1 < w1.heap.size := oM; have hz1b : w.heap.size + 1 + 1 < w1.heap.size := oM)
  | (go_at_call 154; refine (Hadds.out _ (HR.out.below ab0)).mono ?_; rintro e w2 ⟨g9, pc', g7, cap', G, v', vt, rfl, hg9, hg7, hG, hm2, hb2⟩; obtain ⟨hcc2, hff2, hs2⟩ := bC hb2; (try simp at hs2 hg9 hg7 hG); have hz2 : w.heap.size < w2.heap.size := oM; have hz2a : w.heap.size + 1 < w2.heap.size := oM; have hz2b : w.heap.size + 1 + 1 < w2.heap.size := oM; have Hm2 := hide hm2; clear hm2))
 have c0 : w2.cell? ⟨w.heap.size + 1 + 1, 0, none⟩ = some (.slice none 0 0) := by go_simp
 have c1 : w2.cell? ⟨w.heap.size + 1 + 1, 1, none⟩ = some (.slice none 0 0) := by go_simp
 have hB2 : Below w.heap.size w w2 := ab0
 have oC : (m.added t k h.l x (withF a.f k h.l.length) (toldF b a.f k h.l.length) g9 pc' g7 cap' G v' vt).off (w.heap.size + 1 + 1) := MemV.off_added (MemV.off_new HR.out oM) oM oM oM
 have HZ := hide (MemV.R.set (MemV.R.set Hm2.out oC (.of c0) (.slice (some ⟨g9, 0, none⟩) m.hs.length pc')) oC (.set (.of c1) _) (.slice (some ⟨G, 0, none⟩) m.vs.length m.vs.length))
 have HB := hide (Below.setCell (Below.setCell hB2 (p := ⟨w.heap.size + 1 + 1, 0, none⟩) ab4 (.slice (some ⟨g9, 0, none⟩) m.hs.length pc')) (p := ⟨w.heap.size + 1 + 1, 1, none⟩) ab4 (.slice (some ⟨G, 0, none⟩) m.vs.length m.vs.length))
 have q9 : w.heap.size ≤ g9 := by omega
 have q7 : w.heap.size ≤ g7 := by omega
 have qG : w.heap.size ≤ G := by omega
 refine bodyPost_ret (v := .tuple #[.agg #[.slice (some ⟨g9, 0, none⟩) m.hs.length pc', .slice (some ⟨G, 0, none⟩) m.vs.length m.vs.length], .int .i64 0]) (by simp [results, Tryz.results138, go_sem]; (try go_simp)) rfl ⟨g9, pc', g7, cap', G, v', vt, rfl, q9, q7, qG, ?_, ?_⟩
 ·with_reducible exact HZ.out
 ·with_reducible exact HB.out
end Go.Proofs.YtnnmenmifphadaaGreatDoor
