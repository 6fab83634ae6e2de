/- Package memory: Swap. -/
import Derived.Test.YtnnmenmifphadaaGreatDoorU09
import Derived.Test.YtnnmenmifphadaaGreatDoorU26
set_option linter.unusedSimpArgs false
set_option linter.unusedVariables false
set_option maxRecDepth 100000
set_option maxHeartbeats 40000000
namespace Go.Proofs.YtnnmenmifphadaaGreatDoor
open Go.RowKit Go.Maps
theorem mem_swap_no (m : MemV) (t k n : Nat) (h : HistV) (g : MsgV) (a : VwV) (x y : W3) (w : World) (hR : m.R w) (hh : m.hs[k]? = some h) (hl : h.l.length = n + 1) (hg : h.l[n]? = some g) (ha : m.vs[t]? = some a) (hn : m.vs.length ≤ 1000) (hL : m.hs.length ≤ 4096) (hi6 : n < 1000000) (hne : eq3 g.x x = false) :
  Calls Tryz.prog 137 #[(.agg #[.slice (m).pA (m).hs.length (m).pc, .slice (m).vA (m).vs.length (m).vc]), .int .i64 ((t : Int) + 1), .int .i64 k, (w3V x), (w3V y)] w fun e w' => ∃ G v', e = .returned (.tuple #[.agg #[.slice m.pA m.hs.length m.pc, .slice (some ⟨G, 0, none⟩) m.vs.length m.vs.length], (w3V g.x), .bool false, .int .i64 0]) ∧ w.heap.size ≤ G ∧ (m.with (some ⟨G, 0, none⟩) m.vs.length t ⟨v', joinF (withF a.f k n) g.a.f⟩).R w' ∧ Below w.heap.size w w' := by
 have htn : t < m.vs.length := (List.getElem?_eq_some_iff.1 ha).1
 have hkn : k < m.hs.length := (List.getElem?_eq_some_iff.1 hh).1
 have hlook := fun W (hw : m.R W) => mem_Look m t k n h g a W hw hh hl hg ha hn hL oM
 have hq := fun W => neqWord g.x x W
 rw [hne] at hq
 obtain ⟨pA, pc, hs, vA, vc, vs⟩ := m
 simp only at hlook htn hkn
 have Hlook := hide hlook
 have HR := hide hR
 clear hlook hR hh hg ha hn hL hi6 hl
 go_enter Tryz.func137, Tryz.ntmps137
 go_wp2_with (first
  | (go_at_call 142; refine (Hlook.out _ (HR.out.below ab0)).mono ?_; rintro e w1 ⟨g5, v5, rfl, hg5, hm5, hb1⟩; (try simp at hg5); obtain ⟨hcc1, hff1, hs1⟩ := bC hb1; (try simp at hs1); have hz0 : w.heap.size < w1.heap.size := oM; have hz1 : w.heap.size + 1 < w1.heap.size := oM; have hz2 : w.heap.size + 1 + 1 < w1.heap.size := oM; have hz3 : w.heap.size + 1 + 1 + 1 < w1.heap.size := oM; have hz4 : w.heap.size + 1 + 1 + 1 + 1 < w1.heap.size := oM; have Hm5 := hide hm5; clear hm5))
 obtain ⟨w2, hw2⟩ : ∃ W : World, W = (w1.alloc (.cells #[.slice pA hs.length pc, .slice (some ⟨g5, 0, none⟩) vs.length vs.length] 29)).alloc (.cells #[.int .i64 g.x.v, .int .u32 g.x.r, .int .u32 g.x.f] 66) := ⟨_, rfl⟩
 have hs2 : w1.heap.size + 1 + 1 ≤ w2.heap.size := by rw [hw2]; simp
 have p0 : w2.cell? ⟨w1.heap.size, 0, none⟩ = some (.slice pA hs.length pc) := by rw [hw2]; go_simp
 have p1 : w2.cell? ⟨w1.heap.size, 1, none⟩ = some (.slice (some ⟨g5, 0, none⟩) vs.length vs.length) := by rw [hw2]; go_simp
 have x0 : w2.cell? ⟨w1.heap.size + 1, 0, none⟩ = some (.int .i64 g.x.v) := by rw [hw2]; go_simp
 have x1 : w2.cell? ⟨w1.heap.size + 1, 1, none⟩ = some (.int .u32 g.x.r) := by rw [hw2]; go_simp
 have x2 : w2.cell? ⟨w1.heap.size + 1, 2, none⟩ = some (.int .u32 g.x.f) := by rw [hw2]; go_simp
 have y0 : w2.cell? ⟨w.heap.size + 1 + 1, 0, none⟩ = some (.int .i64 y.v) := by rw [hw2]; go_simp
 have y1 : w2.cell? ⟨w.heap.size + 1 + 1, 1, none⟩ = some (.int .u32 y.r) := by rw [hw2]; go_simp
 have y2 : w2.cell? ⟨w.heap.size + 1 + 1, 2, none⟩ = some (.int .u32 y.f) := by rw [hw2]; go_simp
 have r0 : w2.cell? ⟨w.heap.size + 1 + 1 + 1, 0, none⟩ = some (.slice none 0 0) := by rw [hw2]; go_simp
 have r1 : w2.cell? ⟨w.heap.size + 1 + 1 + 1, 1, none⟩ = some (.slice none 0 0) := by rw [hw2]; go_simp
 have r2 : w2.cell? ⟨w.heap.size + 1 + 1 + 1 + 1, 0, none⟩ = some (.int .i64 0) := by rw [hw2]; go_simp
 have r3 : w2.cell? ⟨w.heap.size + 1 + 1 + 1 + 1, 1, none⟩ = some (.int .u32 0) := by rw [hw2]; go_simp
 have r4 : w2.cell? ⟨w.heap.size + 1 + 1 + 1 + 1, 2, none⟩ = some (.int .u32 0) := by rw [hw2]; go_simp
 have f0 : ∀ o, w2.frozen? ⟨w.heap.size + 1 + 1 + 1, o, none⟩ = false := by intro o; rw [hw2]; go_simp
 have f1 : ∀ o, w2.frozen? ⟨w.heap.size + 1 + 1 + 1 + 1, o, none⟩ = false := by intro o; rw [hw2]; go_simp
 have hB2 : Below w.heap.size w w2 := by rw [hw2]; exact ab0
 have Hm2 := hide (Hm5.out.below (show Below w1.heap.size w1 w2 by rw [hw2]; exact ab0))
 have Hof0 : Hid (MemV.off (w.heap.size + 1 + 1 + 1) ⟨pA, pc, hs, vA, vc, vs⟩) := hide (MemV.off_new HR.out (C := w.heap.size + 1 + 1 + 1) oM)
 have Hof1 : Hid (MemV.off (w.heap.size + 1 + 1 + 1 + 1) ⟨pA, pc, hs, vA, vc, vs⟩) := hide (MemV.off_new HR.out (C := w.heap.size + 1 + 1 + 1 + 1) oM)
 rw [← hw2]
 clear hw2 hcc1 hff1 hb1 Hm5 hq
 have n1 : ¬ w.heap.size + 1 + 1 + 1 = w1.heap.size := by omega
 have n2 : ¬ w.heap.size + 1 + 1 + 1 = w1.heap.size + 1 := by omega
 have n3 : ¬ w.heap.size + 1 + 1 + 1 + 1 = w1.heap.size := by omega
 have n4 : ¬ w.heap.size + 1 + 1 + 1 + 1 = w1.heap.size + 1 := by omega
 refine wp_region_held_drew (S := (fun w' => (w'.cell? ⟨w1.heap.size, 0, none⟩ = some (.slice pA hs.length pc) ∧ w'.cell? ⟨w1.heap.size, 1, none⟩ = some (.slice (some ⟨g5, 0, none⟩) vs.length vs.length)) ∧ (w'.cell? ⟨w1.heap.size + 1, 0, none⟩ = some (.int .i64 g.x.v) ∧ w'.cell? ⟨w1.heap.size + 1, 1, none⟩ = some (.int .u32 g.x.r) ∧ w'.cell? ⟨w1.heap.size + 1, 2, none⟩ = some (.int .u32 g.x.f)))) kR ab20 (fun hHeld => ?_)
 refine tq1 0 ?_
 refine tq1 1 ?_
 refine tq1 2 ?_
 refine wE 3 fun K hK => ?_
 go_simp
 go_wp2_with fail
 refine oK hK ab20 fun hHeld => ?_
 clear hK K
 refine wE 4 fun K hK => ?_
 go_simp
 go_wp2_with fail
 refine oK hK ab20 fun hHeld => ?_
 clear hK K
 refine tq1 5 ?_
 refine tq1 6 ?_
 refine wD ?_
 go_wp2_with fail
 have hgw : w.heap.size ≤ g5 := by omega
 have HZ := hide (MemV.R.drew (MemV.R.five Hm2.out (MemV.off_with Hof0.out oM) (MemV.off_with Hof1.out oM) r0 r1 r2 r3 r4 (.slice pA hs.length pc) (.slice (some ⟨g5, 0, none⟩) vs.length vs.length) (.int .i64 g.x.v) (.int .u32 g.x.r) (.int .u32 g.x.f)))
 have HB := hide (Below.drew (Below.five hB2 (c := w.heap.size + 1 + 1 + 1) (d := w.heap.size + 1 + 1 + 1 + 1) oM oM (.slice pA hs.length pc) (.slice (some ⟨g5, 0, none⟩) vs.length vs.length) (.int .i64 g.x.v) (.int .u32 g.x.r) (.int .u32 g.x.f)))
 refine bodyPost_ret (v := .tuple #[.agg #[.slice pA hs.length pc, .slice (some ⟨g5, 0, none⟩) vs.length vs.length], (.agg #[.int .i64 (g.x).v, .int .u32 (g.x).r, .int .u32 (g.x).f]), .bool false, .int .i64 0]) (by simp [results, Tryz.results137, go_sem]; (try go_simp)) rfl ⟨g5, v5, rfl, hgw, ?_, ?_⟩
 ·with_reducible exact HZ.out
 ·with_reducible exact HB.out
theorem mem_swap_yes (m : MemV) (t k n : Nat) (h : HistV) (g : MsgV) (a : VwV) (x y : W3) (w : World) (hR : m.R w) (hh : m.hs[k]? = some h) (hl : h.l.length = n + 1) (hg : h.l[n]? = some g) (ha : m.vs[t]? = some a) (hn : m.vs.length ≤ 1000) (hL : m.hs.length ≤ 4096) (hi6 : n < 1000000) (hne : eq3 g.x x = true) :
  Calls Tryz.prog 137 #[(.agg #[.slice (m).pA (m).hs.length (m).pc, .slice (m).vA (m).vs.length (m).vc]), .int .i64 ((t : Int) + 1), .int .i64 k, (w3V x), (w3V y)] w fun e w' => ∃ g9 pc' g7 cap' G v', e = .returned (.tuple #[.agg #[.slice (some ⟨g9, 0, none⟩) m.hs.length pc', .slice (some ⟨G, 0, none⟩) m.vs.length m.vs.length], (w3V g.x), .bool true, .int .i64 0]) ∧ w.heap.size ≤ g9 ∧ w.heap.size ≤ g7 ∧ w.heap.size ≤ G ∧ (MemV.with ⟨some ⟨g9, 0, none⟩, pc', m.hs.set k ⟨some ⟨g7, 0, none⟩, cap', h.l ++ [⟨y, (t : Int) + 1, ⟨v', withF (joinF (withF a.f k n) g.a.f) k (n + 1)⟩⟩]⟩, m.vA, m.vc, m.vs⟩ (some ⟨G, 0, none⟩) m.vs.length t ⟨v', withF (joinF (withF a.f k n) g.a.f) k (n + 1)⟩).R w' ∧ Below w.heap.size w w' := by
 have htn : t < m.vs.length := (List.getElem?_eq_some_iff.1 ha).1
 have hkn : k < m.hs.length := (List.getElem?_eq_some_iff.1 hh).1
 have hlook := fun W (hw : m.R W) => mem_Look m t k n h g a W hw hh hl hg ha hn hL oM
 have hadd : ∀ (G5 : Nat) (v5 : Option Nat) (W : World), (m.with (some ⟨G5, 0, none⟩) m.vs.length t ⟨v5, joinF (withF a.f k n) g.a.f⟩).R W → Calls Tryz.prog 154 #[.agg #[.slice m.pA m.hs.length m.pc, .slice (some ⟨G5, 0, none⟩) m.vs.length m.vs.length], .int .i64 ((t : Int) + 1), .int .i64 k, (.agg #[.int .i64 (y).v, .int .u32 (y).r, .int .u32 (y).f]), .bool true] W fun e w' => ∃ g9 pc' g7 cap' G v', e = .returned (.agg #[.slice (some ⟨g9, 0, none⟩) m.hs.length pc', .slice (some ⟨G, 0, none⟩) m.vs.length m.vs.length]) ∧ W.heap.size ≤ g9 ∧ W.heap.size ≤ g7 ∧ W.heap.size ≤ G ∧ (MemV.with ⟨some ⟨g9, 0, none⟩, pc', m.hs.set k ⟨some ⟨g7, 0, none⟩, cap', h.l ++ [⟨y, (t : Int) + 1, ⟨v', withF (joinF (withF a.f k n) g.a.f) k (n + 1)⟩⟩]⟩, m.vA, m.vc, m.vs⟩ (some ⟨G, 0, none⟩) m.vs.length t ⟨v', withF (joinF (withF a.f k n) g.a.f) k (n + 1)⟩).R w' ∧ Below W.heap.size W w' := by
  intro G5 v5 W hw
  have e1 : (m.vs.set t ⟨v5, joinF (withF a.f k n) g.a.f⟩).length = m.vs.length := List.length_set
  have hq := mem_adds (m.with (some ⟨G5, 0, none⟩) m.vs.length t ⟨v5, joinF (withF a.f k n) g.a.f⟩) t k h ⟨v5, joinF (withF a.f k n) g.a.f⟩ y W hw hh (by show (m.vs.set t _)[t]? = _; rw [List.getElem?_set_self htn]) (by show (m.vs.set t _).length ≤ _; rw [e1]; exact hn) hL oM
  simp only [MemV.with, hl, e1, List.set_set] at hq ⊢
  exact hq
 have Hadd := hide hadd
 clear hadd
 have hq := fun W => neqWord g.x x W
 rw [hne] at hq
 obtain ⟨pA, pc, hs, vA, vc, vs⟩ := m
 simp only at hlook htn hkn
 have Hlook := hide hlook
 have HR := hide hR
 clear hlook hR hh hg ha hn hL hi6 hl
 go_enter Tryz.func137, Tryz.ntmps137
 go_wp2_with (first
  | (go_at_call 142; refine (Hlook.out _ (HR.out.below ab0)).mono ?_; rintro e w1 ⟨g5, v5, rfl, hg5, hm5, hb1⟩; (try simp at hg5); obtain ⟨hcc1, hff1, hs1⟩ := bC hb1; (try simp at hs1); have hz0 : w.heap.size < w1.heap.size := oM; have hz1 : w.heap.size + 1 < w1.heap.size := oM; have hz2 : w.heap.size + 1 + 1 < w1.heap.size := oM; have hz3 : w.heap.size + 1 + 1 + 1 < w1.heap.size := oM; have hz4 : w.heap.size + 1 + 1 + 1 + 1 < w1.heap.size := oM; have Hm5 := hide hm5; clear hm5))
 obtain ⟨w2, hw2⟩ : ∃ W : World, W = (w1.alloc (.cells #[.slice pA hs.length pc, .slice (some ⟨g5, 0, none⟩) vs.length vs.length] 29)).alloc (.cells #[.int .i64 g.x.v, .int .u32 g.x.r, .int .u32 g.x.f] 66) := ⟨_, rfl⟩
 have hs2 : w1.heap.size + 1 + 1 ≤ w2.heap.size := by rw [hw2]; simp
 have p0 : w2.cell? ⟨w1.heap.size, 0, none⟩ = some (.slice pA hs.length pc) := by rw [hw2]; go_simp
 have p1 : w2.cell? ⟨w1.heap.size, 1, none⟩ = some (.slice (some ⟨g5, 0, none⟩) vs.length vs.length) := by rw [hw2]; go_simp
 have x0 : w2.cell? ⟨w1.heap.size + 1, 0, none⟩ = some (.int .i64 g.x.v) := by rw [hw2]; go_simp
 have x1 : w2.cell? ⟨w1.heap.size + 1, 1, none⟩ = some (.int .u32 g.x.r) := by rw [hw2]; go_simp
 have x2 : w2.cell? ⟨w1.heap.size + 1, 2, none⟩ = some (.int .u32 g.x.f) := by rw [hw2]; go_simp
 have y0 : w2.cell? ⟨w.heap.size + 1 + 1, 0, none⟩ = some (.int .i64 y.v) := by rw [hw2]; go_simp
 have y1 : w2.cell? ⟨w.heap.size + 1 + 1, 1, none⟩ = some (.int .u32 y.r) := by rw [hw2]; go_simp
 have y2 : w2.cell? ⟨w.heap.size + 1 + 1, 2, none⟩ = some (.int .u32 y.f) := by rw [hw2]; go_simp
 have r0 : w2.cell? ⟨w.heap.size + 1 + 1 + 1, 0, none⟩ = some (.slice none 0 0) := by rw [hw2]; go_simp
 have r1 : w2.cell? ⟨w.heap.size + 1 + 1 + 1, 1, none⟩ = some (.slice none 0 0) := by rw [hw2]; go_simp
 have r2 : w2.cell? ⟨w.heap.size + 1 + 1 + 1 + 1, 0, none⟩ = some (.int .i64 0) := by rw [hw2]; go_simp
 have r3 : w2.cell? ⟨w.heap.size + 1 + 1 + 1 + 1, 1, none⟩ = some (.int .u32 0) := by rw [hw2]; go_simp
 have r4 : w2.cell? ⟨w.heap.size + 1 + 1 + 1 + 1, 2, none⟩ = some (.int .u32 0) := by rw [hw2]; go_simp
 have f0 : ∀ o, w2.frozen? ⟨w.heap.size + 1 + 1 + 1, o, none⟩ = false := by intro o; rw [hw2]; go_simp
 have f1 : ∀ o, w2.frozen? ⟨w.heap.size + 1 + 1 + 1 + 1, o, none⟩ = false := by intro o; rw [hw2]; go_simp
 have hB2 : Below w.heap.size w w2 := by rw [hw2]; exact ab0
 have Hm2 := hide (Hm5.out.below (show Below w1.heap.size w1 w2 by rw [hw2]; exact ab0))
 have Hof0 : Hid (MemV.off (w.heap.size + 1 + 1 + 1) ⟨pA, pc, hs, vA, vc, vs⟩) := hide (MemV.off_new HR.out (C := w.heap.size + 1 + 1 + 1) oM)
 have Hof1 : Hid (MemV.off (w.heap.size + 1 + 1 + 1 + 1) ⟨pA, pc, hs, vA, vc, vs⟩) := hide (MemV.off_new HR.out (C := w.heap.size + 1 + 1 + 1 + 1) oM)
 rw [← hw2]
 clear hw2 hcc1 hff1 hb1 Hm5 hq
 have n1 : ¬ w.heap.size + 1 + 1 + 1 = w1.heap.size := by omega
 have n2 : ¬ w.heap.size + 1 + 1 + 1 = w1.heap.size + 1 := by omega
 have n3 : ¬ w.heap.size + 1 + 1 + 1 + 1 = w1.heap.size := by omega
 have n4 : ¬ w.heap.size + 1 + 1 + 1 + 1 = w1.heap.size + 1 := by omega
 refine wp_region_held_drew (S := (fun w' => (w'.cell? ⟨w1.heap.size, 0, none⟩ = some (.slice pA hs.length pc) ∧ w'.cell? ⟨w1.heap.size, 1, none⟩ = some (.slice (some ⟨g5, 0, none⟩) vs.length vs.length)) ∧ (w'.cell? ⟨w1.heap.size + 1, 0, none⟩ = some (.int .i64 g.x.v) ∧ w'.cell? ⟨w1.heap.size + 1, 1, none⟩ = some (.int .u32 g.x.r) ∧ w'.cell? ⟨w1.heap.size + 1, 2, none⟩ = some (.int .u32 g.x.f)) ∧ (w'.cell? ⟨w.heap.size + 1 + 1, 0, none⟩ = some (.int .i64 y.v) ∧ w'.cell? ⟨w.heap.size + 1 + 1, 1, none⟩ = some (.int .u32 y.r) ∧ w'.cell? ⟨w.heap.size + 1 + 1, 2, none⟩ = some (.int .u32 y.f)))) kR ab22 (fun hHeld => ?_)
 refine tq1 0 ?_
 refine tq1 1 ?_
 refine tq1 2 ?_
 refine tq1 3 ?_
 refine tq1 5 ?_
 refine wE 4 fun K hK => ?_
 go_simp
 (go_at_call 154; refine (Hadd.out g5 v5 _ (Hm2.out.below ab0)).mono ?_; rintro e w3 ⟨g9, pc', g7, cap', G, v', rfl, hg9, hg7, hG, hm3, hb3'⟩; have hb3 : Below _ _ w3 := ab17; have hsw3 := (hb3).size; (try simp at hsw3); (try simp at hg9); (try simp at hg7); (try simp at hG); have Hm3 := hide hm3; clear hm3; obtain ⟨hcc3, hff3⟩ := bcell hb3; have hz20 : w.heap.size + 1 + 1 < w2.heap.size := oM; have hz21 : w.heap.size + 1 + 1 + 1 < w2.heap.size := oM; have hz22 : w.heap.size + 1 + 1 + 1 + 1 < w2.heap.size := oM; have hz23 : w1.heap.size < w2.heap.size := oM; have hz24 : w1.heap.size + 1 < w2.heap.size := oM)
 go_wp2_with fail
 refine oK hK ab22 fun hHeld => ?_
 clear hK K
 refine wE 6 fun K hK => ?_
 go_simp
 go_wp2_with fail
 refine oK hK ab22 fun hHeld => ?_
 clear hK K
 refine wE 7 fun K hK => ?_
 go_simp
 go_wp2_with fail
 refine oK hK ab22 fun hHeld => ?_
 clear hK K
 refine tq1 8 ?_
 refine tq1 9 ?_
 refine wD ?_
 all_goals go_wp2_with fail
 all_goals have hgw9 : w.heap.size ≤ g9 := by omega
 all_goals have hgw7 : w.heap.size ≤ g7 := by omega
 all_goals have hgwG : w.heap.size ≤ G := by omega
 all_goals have c0 := (hcc3 _ 0 hz21).trans r0
 all_goals have c1 := (hcc3 _ 1 hz21).trans r1
 all_goals have c2 := (hcc3 _ 0 hz22).trans r2
 all_goals have c3 := (hcc3 _ 1 hz22).trans r3
 all_goals have c4 := (hcc3 _ 2 hz22).trans r4
 all_goals have hB3 : Below w.heap.size w w3 := hB2.trans (hb3.mono oM)
 all_goals have HZ := hide (MemV.R.five Hm3.out (MemV.off_with (MemV.off_put Hof0.out oM oM) oM) (MemV.off_with (MemV.off_put Hof1.out oM oM) oM) c0 c1 c2 c3 c4 (.slice (some ⟨g9, 0, none⟩) hs.length pc') (.slice (some ⟨G, 0, none⟩) vs.length vs.length) (.int .i64 g.x.v) (.int .u32 g.x.r) (.int .u32 g.x.f))
 all_goals have HB := hide (Below.five hB3 (c := w.heap.size + 1 + 1 + 1) (d := w.heap.size + 1 + 1 + 1 + 1) oM oM (.slice (some ⟨g9, 0, none⟩) hs.length pc') (.slice (some ⟨G, 0, none⟩) vs.length vs.length) (.int .i64 g.x.v) (.int .u32 g.x.r) (.int .u32 g.x.f))
 all_goals refine bodyPost_ret (v := .tuple #[.agg #[.slice (some ⟨g9, 0, none⟩) hs.length pc', .slice (some ⟨G, 0, none⟩) vs.length vs.length], (.agg #[.int .i64 (g.x).v, .int .u32 (g.x).r, .int .u32 (g.x).f]), .bool true, .int .i64 0]) (by simp [results, Tryz.results137, go_sem]; (try go_simp)) rfl ⟨g9, pc', g7, cap', G, v', rfl, hgw9, hgw7, hgwG, ?_, ?_⟩
 all_goals first
  | with_reducible exact HZ.out
  | with_reducible exact HZ.out.drew
  | with_reducible exact HB.out
  | with_reducible exact HB.out.drew
structure MachV where
 mem : MemV
 ln : LinesV
 sA : Option Addr
 sc : Nat
 steps : List Int
 crashes : Int
 ak : Nat → Int → Int
abbrev maV (x : MachV) : Value := .agg #[.slice x.mem.pA x.mem.hs.length x.mem.pc, .slice x.mem.vA x.mem.vs.length x.mem.vc, .slice x.ln.fA x.ln.first.length x.ln.fc, .slice x.ln.lA x.ln.logs.length x.ln.lc, .map x.ln.asks, .slice x.sA x.steps.length x.sc, .int .i64 x.crashes]
def MachV.R (w : World) (m : MachV) : Prop := m.mem.R w ∧ m.ln.R w ∧ m.steps.length ≤ m.sc ∧ (m.sA = none → m.steps.length = 0) ∧ Rd w w.heap.size 1 m.sA m.steps.length (m.steps.map (Value.int .i64)) ∧ AsksR ((m.ln.first.length + 7) / 8) w m.ln.asks m.ak
def MachV.off (C : Nat) (m : MachV) : Prop := m.mem.off C ∧ m.ln.off C ∧ OffC C m.steps.length m.sA ∧ m.ln.asks ≠ some C
theorem MachV.R.below {w w' : World} {m : MachV} (h : m.R w) (hb : Below w.heap.size w w') : m.R w' := ⟨h.1.below hb, h.2.1.below hb, h.2.2.1, h.2.2.2.1, (h.2.2.2.2.1.below hb).more hb.size, h.2.2.2.2.2.below hb⟩
theorem MachV.R.drew {w : World} {m : MachV} (h : m.R w) : m.R w.drew := h.below (Below.drew (Below.refl _ _))
theorem MachV.off_new {w : World} {m : MachV} {C : Nat} (h : m.R w) (hC : w.heap.size ≤ C) : m.off C := ⟨MemV.off_new h.1 hC, LinesV.off_new h.2.1 hC, OffC.new h.2.2.2.2.1 hC, fun e => by have := h.2.2.2.2.2.lt e; omega⟩
theorem MachV.R.set {w : World} {m : MachV} {C o : Nat} (h : m.R w) (hoff : m.off C) (hc : HasC ⟨C, o, none⟩ w) (x : Value) : m.R (w.setCell ⟨C, o, none⟩ x) := by
 refine ⟨h.1.set hoff.1 hc x, h.2.1.set hoff.2.1 x, h.2.2.1, h.2.2.2.1, ?_, h.2.2.2.2.2.set hc x⟩
 rw [show (w.setCell ⟨C, o, none⟩ x).heap.size = w.heap.size by simp]
 exact Rd.set_off h.2.2.2.2.1 hoff.2.2.1 x
def MachV.fresh (th : Nat) (ws : List W3) (M : MachV) : Prop := M.mem.hs.map HistV.l = ws.map (fun x => [msg0 x]) ∧ M.mem.vs = List.replicate th ⟨none, fun _ => 0⟩ ∧ M.ln.first = ws ∧ M.ln.logs = List.replicate ((ws.length + 7) / 8) log0 ∧ M.ln.asks = none ∧ M.steps = List.replicate th 0 ∧ M.crashes = 0 ∧ M.ak = fun _ _ => 0
theorem mach_size (m : MachV) (w : World) : Calls Tryz.prog 54 #[(.agg #[.slice (m).mem.pA (m).mem.hs.length (m).mem.pc, .slice (m).mem.vA (m).mem.vs.length (m).mem.vc, .slice (m).ln.fA (m).ln.first.length (m).ln.fc, .slice (m).ln.lA (m).ln.logs.length (m).ln.lc, .map (m).ln.asks, .slice (m).sA (m).steps.length (m).sc, .int .i64 (m).crashes])] w (Ret (.tuple #[.int .i64 m.mem.vs.length, .int .i64 m.mem.hs.length]) w) := by
 have hsz := fun W => mem_size m.mem W
 have Hsz := hide hsz
 clear hsz
 go_enter Tryz.func54, Tryz.ntmps54
 go_wp2_with (first | (go_at_call 90; refine (Hsz.out _).mono ?_; rintro e w1 ⟨rfl, hb1⟩; obtain ⟨hcc1, hff1, hs1⟩ := bC hb1; (try simp at hs1)))
 exact bodyPost_ret (v := .tuple #[.int .i64 m.mem.vs.length, .int .i64 m.mem.hs.length]) (by simp [results, Tryz.results54, go_sem]; (try go_simp)) rfl ⟨rfl, ab0⟩
structure ActV where
 op : Int
 at_ : Int
 old : W3
 new : W3
abbrev avV (x : ActV) : Value := .agg #[.int .i64 x.op, .int .i64 x.at_, .int .i64 x.old.v, .int .u32 x.old.r, .int .u32 x.old.f, .int .i64 x.new.v, .int .u32 x.new.r, .int .u32 x.new.f]
def ActV.good (L : Nat) (a : ActV) : Prop := 0 ≤ a.op ∧ a.op ≤ 8 ∧ (a.op = 0 ∨ a.op = 8 ∨ (0 ≤ a.at_ ∧ a.at_ < (L : Int)))
theorem mach_changes (a : ActV) (w : World) : Calls Tryz.prog 49 #[(.agg #[.int .i64 (a).op, .int .i64 (a).at_, .int .i64 (a).old.v, .int .u32 (a).old.r, .int .u32 (a).old.f, .int .i64 (a).new.v, .int .u32 (a).new.r, .int .u32 (a).new.f])] w (Ret (.bool (decide (a.op = 3) || decide (a.op = 4) || decide (a.op = 6))) w) := by
 by_cases h3 : a.op = 3
 all_goals by_cases h4 : a.op = 4
 all_goals by_cases h6 : a.op = 6
 all_goals (try (exfalso; omega))
 all_goals go_enter Tryz.func49, Tryz.ntmps49
 all_goals go_wp2_with fail
 all_goals go_ret
 all_goals exact ⟨by simp [h3, h4, h6], ab0⟩
theorem mach_check (m : MachV) (t : Nat) (a : ActV) (w : World) (ht : t < m.mem.vs.length) (ha : a.good m.mem.hs.length) : Calls Tryz.prog 110 #[(maV m), .int .i64 ((t : Int) + 1), (avV a)] w (Ret (.int .i64 0) w) := by
 try unfold avV
 have hsz := fun W => mach_size m W
 have Hsz := hide hsz
 obtain ⟨op, z, old, new⟩ := a
 obtain ⟨h0, h8, hz⟩ := ha
 simp only at h0 h8 hz
 have t1 : ¬ ((t : Int) + 1 < 1) := by omega
 have t2 : ¬ ((t : Int) + 1 > (m.mem.vs.length : Int)) := by omega
 have t2' : ¬ ((m.mem.vs.length : Int) < (t : Int) + 1) := by omega
 have o1 : ¬ (op < 0) := by omega
 have o2 : ¬ (op > 8) := by omega
 have o2' : ¬ (8 < op) := by omega
 clear hsz
 by_cases z0 : op = 0
 ·subst z0
  clear hz h0 h8 o1 o2 o2'
  go_enter Tryz.func110, Tryz.ntmps110
  go_wp2_with (first | (go_at_call 54; refine (Hsz.out _).mono ?_; rintro e w1 ⟨rfl, hb1⟩; obtain ⟨hcc1, hff1, hs1⟩ := bC hb1; (try simp at hs1); have hz1 : w.heap.size < w1.heap.size := oM; have hz2 : w.heap.size + 1 < w1.heap.size := oM))
  go_ret
  exact ⟨rfl, ab0⟩
 ·by_cases z8 : op = 8
  ·subst z8
   clear hz h0 h8 o1 o2 o2'
   go_enter Tryz.func110, Tryz.ntmps110
   go_wp2_with (first | (go_at_call 54; refine (Hsz.out _).mono ?_; rintro e w1 ⟨rfl, hb1⟩; obtain ⟨hcc1, hff1, hs1⟩ := bC hb1; (try simp at hs1); have hz1 : w.heap.size < w1.heap.size := oM; have hz2 : w.heap.size + 1 < w1.heap.size := oM))
   go_ret
   exact ⟨rfl, ab0⟩
  ·have hz1 : ¬ (z < 0) := by omega
   have hz2 : ¬ (z ≥ (m.mem.hs.length : Int)) := by omega
   have hz2' : ¬ ((m.mem.hs.length : Int) ≤ z) := by omega
   clear hz h0 h8
   go_enter Tryz.func110, Tryz.ntmps110
   go_wp2_with (first | (go_at_call 54; refine (Hsz.out _).mono ?_; rintro e w1 ⟨rfl, hb1⟩; obtain ⟨hcc1, hff1, hs1⟩ := bC hb1; (try simp at hs1); have hz1 : w.heap.size < w1.heap.size := oM; have hz2 : w.heap.size + 1 < w1.heap.size := oM))
   go_ret
   exact ⟨rfl, ab0⟩
theorem info_int2 : (Tryz.prog.info? 3).map (fun i => (i.zero, i.size, i.bytes)) = some (some (.int .i64 0), 1, 8) := by kernel_rfl
theorem mach_new (th n : Nat) (A : Option Addr) (cap : Nat) (ws : List W3) (w : World) (hw : ws.length = n) (hr : Rd w w.heap.size 3 A n (ws.flatMap w3c)) (ht1 : 1 ≤ th) (ht2 : th ≤ 8) (hn1 : 1 ≤ n) (hn2 : n ≤ 4096) :
  Calls Tryz.prog 21 #[.int .i64 th, .slice A n cap] w fun e w' => ∃ M : MachV, e = .returned (.tuple #[(maV M), .int .i64 0]) ∧ M.fresh th ws ∧ M.R w' ∧ (∀ C, C < w.heap.size → M.off C) ∧ Below w.heap.size w w' := by
 obtain ⟨i0, hi0, jz0, jz1, jz2⟩ := info_parts info_int2
 have hi := hide hi0
 have iz0 := hide jz0
 have iz1 := hide jz1
 have iz2 := hide jz2
 clear hi0 jz0 jz1 jz2
 have hA : A = none → n = 0 := by
  intro e
  obtain ⟨b, off, e2, _⟩ := hr.2 oM
  rw [e] at e2
  cases e2
 have hm := fun W (h : Rd W W.heap.size 3 A n (ws.flatMap w3c)) => mem_new th n A cap ws W hw h ht1 ht2 hn1 hn2
 have hl := fun W (h : Rd W W.heap.size 3 A n (ws.flatMap w3c)) => line_new A cap n ws W hw h hA hn2
 have Hm := hide hm
 have Hl := hide hl
 have Hr := hide hr
 have Hw := hide hw
 have hx0 := toList_madeCells_one (Value.int .i64 0) th
 have Hx0 := hide hx0
 clear hr hw hm hl hA hx0
 go_enter Tryz.func21, Tryz.ntmps21
 go_wp2_with (first
  | (go_at_call 52; refine (Hm.out _ ((Hr.out.below ab0).more (by first | omega | (simp; done) | (simp; omega)))).mono ?_; rintro e w1 ⟨M1, rfl, hf1, hf2, hR1, hO1, hb1⟩; obtain ⟨hcc1, hff1, hs1⟩ := bC hb1; (try simp at hs1); have hz10 : w.heap.size < w1.heap.size := oM; have HR1 := hide hR1; have HO1 := hide hO1; have Hf1 := hide hf1; have Hf2 := hide hf2; clear hR1 hO1 hf1 hf2)
  | (go_at_call 53; refine (Hl.out _ ((Hr.out.below ab0).more (by first | omega | (simp; done) | (simp; omega)))).mono ?_; rintro e w2 ⟨M2, rfl, hg1, hg2, hg3, hR2, hO2, hb2⟩; obtain ⟨hcc2, hff2, hs2⟩ := bC hb2; (try simp at hs2); have hz20 : w.heap.size < w2.heap.size := oM; have hz21 : w1.heap.size < w2.heap.size := oM; have HR2 := hide hR2; have HO2 := hide hO2; have Hg1 := hide hg1; have Hg2 := hide hg2; have Hg3 := hide hg3; clear hR2 hO2 hg1 hg2 hg3))
 obtain ⟨w3, hw3⟩ : ∃ W : World, W = w2.alloc (.cells #[.slice M2.fA M2.first.length M2.fc, .slice M2.lA M2.logs.length M2.lc, .map M2.asks] 33) := ⟨_, rfl⟩
 have hs3 : w2.heap.size + 1 ≤ w3.heap.size := by rw [hw3]; simp
 have p0 : w3.cell? ⟨w1.heap.size, 0, none⟩ = some (.slice M1.pA M1.hs.length M1.pc) := by rw [hw3]; go_simp
 have p1 : w3.cell? ⟨w1.heap.size, 1, none⟩ = some (.slice M1.vA M1.vs.length M1.vc) := by rw [hw3]; go_simp
 have l0 : w3.cell? ⟨w2.heap.size, 0, none⟩ = some (.slice M2.fA M2.first.length M2.fc) := by rw [hw3]; go_simp
 have l1 : w3.cell? ⟨w2.heap.size, 1, none⟩ = some (.slice M2.lA M2.logs.length M2.lc) := by rw [hw3]; go_simp
 have l2 : w3.cell? ⟨w2.heap.size, 2, none⟩ = some (.map M2.asks) := by rw [hw3]; go_simp
 have r0 : w3.cell? ⟨w.heap.size, 0, none⟩ = some (.slice none 0 0) := by rw [hw3]; go_simp
 have r1 : w3.cell? ⟨w.heap.size, 1, none⟩ = some (.slice none 0 0) := by rw [hw3]; go_simp
 have r2 : w3.cell? ⟨w.heap.size, 2, none⟩ = some (.slice none 0 0) := by rw [hw3]; go_simp
 have r3 : w3.cell? ⟨w.heap.size, 3, none⟩ = some (.slice none 0 0) := by rw [hw3]; go_simp
 have r4 : w3.cell? ⟨w.heap.size, 4, none⟩ = some (.map none) := by rw [hw3]; go_simp
 have r5 : w3.cell? ⟨w.heap.size, 5, none⟩ = some (.slice none 0 0) := by rw [hw3]; go_simp
 have r6 : w3.cell? ⟨w.heap.size, 6, none⟩ = some (.int .i64 0) := by rw [hw3]; go_simp
 have f0 : ∀ o, w3.frozen? ⟨w.heap.size, o, none⟩ = false := by intro o; rw [hw3]; go_simp
 have hB3 : Below w.heap.size w w3 := by rw [hw3]; exact ab0
 have HR13 := hide (HR1.out.below (w' := w3) (by rw [hw3]; exact ab0))
 have HR23 := hide (HR2.out.below (w' := w3) (by rw [hw3]; exact ab0))
 rw [← hw3]
 clear hw3 hcc1 hff1 hb1 hcc2 hff2 hb2 HR1 HR2
 have hz30 : w.heap.size < w3.heap.size := by omega
 have hz31 : w1.heap.size < w3.heap.size := by omega
 have hz32 : w2.heap.size < w3.heap.size := by omega
 have n1 : ¬ w.heap.size = w1.heap.size := by omega
 have n2 : ¬ w.heap.size = w2.heap.size := by omega
 refine wp_region_held_drew (S := (fun w' => (w'.cell? ⟨w1.heap.size, 0, none⟩ = some (.slice M1.pA M1.hs.length M1.pc) ∧ w'.cell? ⟨w1.heap.size, 1, none⟩ = some (.slice M1.vA M1.vs.length M1.vc)) ∧ (w'.cell? ⟨w2.heap.size, 0, none⟩ = some (.slice M2.fA M2.first.length M2.fc) ∧ w'.cell? ⟨w2.heap.size, 1, none⟩ = some (.slice M2.lA M2.logs.length M2.lc) ∧ w'.cell? ⟨w2.heap.size, 2, none⟩ = some (.map M2.asks)))) kR (by first | with_reducible exact ⟨⟨p0, p1⟩, l0, l1, l2⟩ | exact ⟨⟨by go_simp, by go_simp⟩, by go_simp, by go_simp, by go_simp⟩) (fun hHeld => ?_)
 refine tq1 0 ?_
 refine tq1 1 ?_
 refine tq1 2 ?_
 refine wE 3 fun K hK => ?_
 refine wp_make_rows (.tmp 30) (.tmp 30) 34 rfl 3 i0 _ 1 8 Tryz.underlying34 hi.out iz0.out iz1.out iz2.out .i64 .i64 th (by simp [Act.eval, Act.put]) (by simp [Act.eval, Act.put]) oM (by unfold maxLen; omega) (List.replicate th (.int .i64 0)) (by rw [Nat.mul_one]; exact Hx0.out) ?_; intro w4 how4 hb4' hz4; have hb4 : Below _ _ w4 := ab10; have hsw4 := (hb4).size; (try simp at hsw4); obtain ⟨hcc4, hff4⟩ := bcell hb4; have hz40 : w.heap.size < w4.heap.size := oM
 (try go_simp)
 go_wp2_with fail
 refine oK hK (by first | with_reducible exact ⟨⟨p0, p1⟩, l0, l1, l2⟩ | exact ⟨⟨by go_simp, by go_simp⟩, by go_simp, by go_simp, by go_simp⟩) fun hHeld => ?_
 clear hK K
 refine tq1 4 ?_
 refine wE 5 fun K hK => ?_
 go_simp
 go_wp2_with fail
 refine oK hK (by first | with_reducible exact ⟨⟨p0, p1⟩, l0, l1, l2⟩ | exact ⟨⟨by go_simp, by go_simp⟩, by go_simp, by go_simp, by go_simp⟩) fun hHeld => ?_
 clear hK K
 refine tq1 6 ?_
 refine wD ?_
 all_goals go_wp2_with fail
 all_goals have how := how4.out
 all_goals (try simp at how)
 all_goals obtain ⟨c4, a4, rd4⟩ := own_cap' how
 all_goals have hM4 : MachV.R w4 (⟨M1, M2, some ⟨w3.heap.size, 0, none⟩, th, List.replicate th 0, 0, fun _ _ => 0⟩ : MachV) := ⟨HR13.out.below hb4, HR23.out.below hb4, by simp, by simp, by simpa using rd4, .inl ⟨Hg3.out, fun _ _ => rfl⟩⟩
 all_goals have hoff : ∀ C, C < w.heap.size + 1 → MachV.off C (⟨M1, M2, some ⟨w3.heap.size, 0, none⟩, th, List.replicate th 0, 0, fun _ _ => 0⟩ : MachV) := fun C hC => ⟨HO1.out C (by simp; omega), HO2.out C (by simp; omega), OffC.at oM, (fun e => by have q := Hg3.out.symm.trans e; cases q)⟩
 all_goals have Hoff := hide hoff
 all_goals have o0 := hoff w.heap.size oM
 all_goals have HZ := hide (MachV.R.set (MachV.R.set (MachV.R.set (MachV.R.set (MachV.R.set (MachV.R.set (MachV.R.set hM4 o0 (.of ((hcc4 _ 0 hz30).trans r0)) (.slice M1.pA M1.hs.length M1.pc)) o0 (.set (.of ((hcc4 _ 1 hz30).trans r1)) _) (.slice M1.vA M1.vs.length M1.vc)) o0 (.set (.set (.of ((hcc4 _ 2 hz30).trans r2)) _) _) (.slice M2.fA M2.first.length M2.fc)) o0 (.set (.set (.set (.of ((hcc4 _ 3 hz30).trans r3)) _) _) _) (.slice M2.lA M2.logs.length M2.lc)) o0 (.set (.set (.set (.set (.of ((hcc4 _ 4 hz30).trans r4)) _) _) _) _) (.map M2.asks)) o0 (.set (.set (.set (.set (.set (.of ((hcc4 _ 5 hz30).trans r5)) _) _) _) _) _) (.slice (some ⟨w3.heap.size, 0, none⟩) th th)) o0 (.set (.set (.set (.set (.set (.set (.of ((hcc4 _ 6 hz30).trans r6)) _) _) _) _) _) _) (.int .i64 0))
 all_goals have hB4 : Below w.heap.size w w4 := hB3.trans (hb4.mono oM)
 all_goals have HB := hide (Below.setCell (Below.setCell (Below.setCell (Below.setCell (Below.setCell (Below.setCell (Below.setCell hB4 (p := ⟨w.heap.size, 0, none⟩) (Nat.le_refl _) (.slice M1.pA M1.hs.length M1.pc)) (p := ⟨w.heap.size, 1, none⟩) (Nat.le_refl _) (.slice M1.vA M1.vs.length M1.vc)) (p := ⟨w.heap.size, 2, none⟩) (Nat.le_refl _) (.slice M2.fA M2.first.length M2.fc)) (p := ⟨w.heap.size, 3, none⟩) (Nat.le_refl _) (.slice M2.lA M2.logs.length M2.lc)) (p := ⟨w.heap.size, 4, none⟩) (Nat.le_refl _) (.map M2.asks)) (p := ⟨w.heap.size, 5, none⟩) (Nat.le_refl _) (.slice (some ⟨w3.heap.size, 0, none⟩) th th)) (p := ⟨w.heap.size, 6, none⟩) (Nat.le_refl _) (.int .i64 0))
 all_goals have hfr : MachV.fresh th ws (⟨M1, M2, some ⟨w3.heap.size, 0, none⟩, th, List.replicate th 0, 0, fun _ _ => 0⟩ : MachV) := ⟨Hf1.out, Hf2.out, Hg1.out, by rw [Hw.out]; exact Hg2.out, Hg3.out, rfl, rfl, rfl⟩
 all_goals clear hM4 hoff o0 rd4 how
 all_goals refine bodyPost_ret (v := .tuple #[.agg #[.slice M1.pA M1.hs.length M1.pc, .slice M1.vA M1.vs.length M1.vc, .slice M2.fA M2.first.length M2.fc, .slice M2.lA M2.logs.length M2.lc, .map M2.asks, .slice (some ⟨w3.heap.size, 0, none⟩) th th, .int .i64 0], .int .i64 0]) (by simp [results, Tryz.results21, go_sem]; (try go_simp)) rfl ⟨(⟨M1, M2, some ⟨w3.heap.size, 0, none⟩, th, List.replicate th 0, 0, fun _ _ => 0⟩ : MachV), (by simp only [maV, List.length_replicate]), hfr, ?_, (fun C hC => Hoff.out C oM), ?_⟩
 all_goals first
  | with_reducible exact HZ.out
  | with_reducible exact HZ.out.drew
  | with_reducible exact HB.out
  | with_reducible exact HB.out.drew
def MachV.withMem (m : MachV) (M : MemV) : MachV := ⟨M, m.ln, m.sA, m.sc, m.steps, m.crashes, m.ak⟩
theorem MachV.withMem_R {m : MachV} {M : MemV} {w w' : World} (h : m.R w) (hb : Below w.heap.size w w') (hM : M.R w') : (m.withMem M).R w' := ⟨hM, (h.below hb).2⟩
theorem MachV.withMem_off {m : MachV} {M : MemV} {C : Nat} (h : m.off C) (hM : M.off C) : (m.withMem M).off C := ⟨hM, h.2⟩
theorem abD0 {p : Prop} (h : p := by
 have ob0 : w1.cell? ⟨w.heap.size, 0, none⟩ = some (.slice m.mem.pA m.mem.hs.length m.mem.pc) := by go_simp
 have ob1 : w1.cell? ⟨w.heap.size, 1, none⟩ = some (.slice m.mem.vA m.mem.vs.length m.mem.vc) := by go_simp
 have ob2 : w1.cell? ⟨w.heap.size, 2, none⟩ = some (.slice m.ln.fA m.ln.first.length m.ln.fc) := by go_simp
 have ob3 : w1.cell? ⟨w.heap.size, 3, none⟩ = some (.slice m.ln.lA m.ln.logs.length m.ln.lc) := by go_simp
 have ob4 : w1.cell? ⟨w.heap.size, 4, none⟩ = some (.map m.ln.asks) := by go_simp
 have ob5 : w1.cell? ⟨w.heap.size, 5, none⟩ = some (.slice m.sA m.steps.length m.sc) := by go_simp
 have ob6 : w1.cell? ⟨w.heap.size, 6, none⟩ = some (.int .i64 m.crashes) := by go_simp
 have or0 : w1.cell? ⟨w.heap.size + 1 + 1, 0, none⟩ = some (.slice none 0 0) := by go_simp
 have or1 : w1.cell? ⟨w.heap.size + 1 + 1, 1, none⟩ = some (.slice none 0 0) := by go_simp
 have or2 : w1.cell? ⟨w.heap.size + 1 + 1, 2, none⟩ = some (.slice none 0 0) := by go_simp
 have or3 : w1.cell? ⟨w.heap.size + 1 + 1, 3, none⟩ = some (.slice none 0 0) := by go_simp
 have or4 : w1.cell? ⟨w.heap.size + 1 + 1, 4, none⟩ = some (.map none) := by go_simp
 have or5 : w1.cell? ⟨w.heap.size + 1 + 1, 5, none⟩ = some (.slice none 0 0) := by go_simp
 have or6 : w1.cell? ⟨w.heap.size + 1 + 1, 6, none⟩ = some (.int .i64 0) := by go_simp
 have og0 : w1.cell? ⟨w.heap.size + 1 + 1 + 1, 0, none⟩ = some (.int .i64 0) := by go_simp
 have og1 : w1.cell? ⟨w.heap.size + 1 + 1 + 1, 1, none⟩ = some (.int .u32 0) := by go_simp
 have og2 : w1.cell? ⟨w.heap.size + 1 + 1 + 1, 2, none⟩ = some (.int .u32 0) := by go_simp
 have og3 : w1.cell? ⟨w.heap.size + 1 + 1 + 1, 3, none⟩ = some (.bool false) := by go_simp
 have ox0 : w1.cell? ⟨w.heap.size + 1 + 1 + 1 + 1, 0, none⟩ = some (.int .i64 0) := by go_simp
 have ox1 : w1.cell? ⟨w.heap.size + 1 + 1 + 1 + 1, 1, none⟩ = some (.int .u32 0) := by go_simp
 have ox2 : w1.cell? ⟨w.heap.size + 1 + 1 + 1 + 1, 2, none⟩ = some (.int .u32 0) := by go_simp
 have ofr : ∀ o, w1.frozen? ⟨w.heap.size + 1 + 1, o, none⟩ = false := by intro o; go_simp
 have ofg : ∀ o, w1.frozen? ⟨w.heap.size + 1 + 1 + 1, o, none⟩ = false := by intro o; go_simp
 have hB1 : Below w.heap.size w w1 := ab0
 clear hcc1 hff1 hb1
 obtain ⟨w2, hw2⟩ : ∃ W : World, W = (((((w1.setCell ⟨w.heap.size, 0, none⟩ (.slice m.mem.pA m.mem.hs.length m.mem.pc)).setCell ⟨w.heap.size, 1, none⟩ (.slice (some ⟨G, 0, none⟩) m.mem.vs.length m.mem.vs.length)).setCell ⟨w.heap.size + 1 + 1 + 1 + 1, 0, none⟩ (.int .i64 g.x.v)).setCell ⟨w.heap.size + 1 + 1 + 1 + 1, 1, none⟩ (.int .u32 g.x.r)).setCell ⟨w.heap.size + 1 + 1 + 1 + 1, 2, none⟩ (.int .u32 g.x.f)) := ⟨_, rfl⟩
 have hs2 : w2.heap.size = w1.heap.size := by rw [hw2]; simp
 have pb0 : w2.cell? ⟨w.heap.size, 0, none⟩ = some (.slice m.mem.pA m.mem.hs.length m.mem.pc) := by rw [hw2]; go_simp
 have pb1 : w2.cell? ⟨w.heap.size, 1, none⟩ = some (.slice (some ⟨G, 0, none⟩) m.mem.vs.length m.mem.vs.length) := by rw [hw2]; go_simp
 have pb2 : w2.cell? ⟨w.heap.size, 2, none⟩ = some (.slice m.ln.fA m.ln.first.length m.ln.fc) := by rw [hw2]; go_simp
 have pb3 : w2.cell? ⟨w.heap.size, 3, none⟩ = some (.slice m.ln.lA m.ln.logs.length m.ln.lc) := by rw [hw2]; go_simp
 have pb4 : w2.cell? ⟨w.heap.size, 4, none⟩ = some (.map m.ln.asks) := by rw [hw2]; go_simp
 have pb5 : w2.cell? ⟨w.heap.size, 5, none⟩ = some (.slice m.sA m.steps.length m.sc) := by rw [hw2]; go_simp
 have pb6 : w2.cell? ⟨w.heap.size, 6, none⟩ = some (.int .i64 m.crashes) := by rw [hw2]; go_simp
 have pr0 : w2.cell? ⟨w.heap.size + 1 + 1, 0, none⟩ = some (.slice none 0 0) := by rw [hw2]; go_simp
 have pr1 : w2.cell? ⟨w.heap.size + 1 + 1, 1, none⟩ = some (.slice none 0 0) := by rw [hw2]; go_simp
 have pr2 : w2.cell? ⟨w.heap.size + 1 + 1, 2, none⟩ = some (.slice none 0 0) := by rw [hw2]; go_simp
 have pr3 : w2.cell? ⟨w.heap.size + 1 + 1, 3, none⟩ = some (.slice none 0 0) := by rw [hw2]; go_simp
 have pr4 : w2.cell? ⟨w.heap.size + 1 + 1, 4, none⟩ = some (.map none) := by rw [hw2]; go_simp
 have pr5 : w2.cell? ⟨w.heap.size + 1 + 1, 5, none⟩ = some (.slice none 0 0) := by rw [hw2]; go_simp
 have pr6 : w2.cell? ⟨w.heap.size + 1 + 1, 6, none⟩ = some (.int .i64 0) := by rw [hw2]; go_simp
 have pg0 : w2.cell? ⟨w.heap.size + 1 + 1 + 1, 0, none⟩ = some (.int .i64 0) := by rw [hw2]; go_simp
 have pg1 : w2.cell? ⟨w.heap.size + 1 + 1 + 1, 1, none⟩ = some (.int .u32 0) := by rw [hw2]; go_simp
 have pg2 : w2.cell? ⟨w.heap.size + 1 + 1 + 1, 2, none⟩ = some (.int .u32 0) := by rw [hw2]; go_simp
 have pg3 : w2.cell? ⟨w.heap.size + 1 + 1 + 1, 3, none⟩ = some (.bool false) := by rw [hw2]; go_simp
 have px0 : w2.cell? ⟨w.heap.size + 1 + 1 + 1 + 1, 0, none⟩ = some (.int .i64 g.x.v) := by rw [hw2]; go_simp
 have px1 : w2.cell? ⟨w.heap.size + 1 + 1 + 1 + 1, 1, none⟩ = some (.int .u32 g.x.r) := by rw [hw2]; go_simp
 have px2 : w2.cell? ⟨w.heap.size + 1 + 1 + 1 + 1, 2, none⟩ = some (.int .u32 g.x.f) := by rw [hw2]; go_simp
 have pfr : ∀ o, w2.frozen? ⟨w.heap.size + 1 + 1, o, none⟩ = false := by intro o; rw [hw2]; go_simp
 have pfg : ∀ o, w2.frozen? ⟨w.heap.size + 1 + 1 + 1, o, none⟩ = false := by intro o; rw [hw2]; go_simp
 have oB : MachV.off (w.heap.size) (m.withMem (m.mem.with (some ⟨G, 0, none⟩) m.mem.vs.length t ⟨v1, fq⟩)) := MachV.withMem_off (MachV.off_new HR.out oM) (MemV.off_with (MemV.off_new HR.out.1 oM) oM)
 have oR : MachV.off (w.heap.size + 1 + 1) (m.withMem (m.mem.with (some ⟨G, 0, none⟩) m.mem.vs.length t ⟨v1, fq⟩)) := MachV.withMem_off (MachV.off_new HR.out oM) (MemV.off_with (MemV.off_new HR.out.1 oM) oM)
 have oG : MachV.off (w.heap.size + 1 + 1 + 1) (m.withMem (m.mem.with (some ⟨G, 0, none⟩) m.mem.vs.length t ⟨v1, fq⟩)) := MachV.withMem_off (MachV.off_new HR.out oM) (MemV.off_with (MemV.off_new HR.out.1 oM) oM)
 have oW : MachV.off (w.heap.size + 1 + 1 + 1 + 1) (m.withMem (m.mem.with (some ⟨G, 0, none⟩) m.mem.vs.length t ⟨v1, fq⟩)) := MachV.withMem_off (MachV.off_new HR.out oM) (MemV.off_with (MemV.off_new HR.out.1 oM) oM)
 have HM2 : Hid (MachV.R w2 (m.withMem (m.mem.with (some ⟨G, 0, none⟩) m.mem.vs.length t ⟨v1, fq⟩))) := hide (by rw [hw2]; exact (MachV.R.set (MachV.R.set (MachV.R.set (MachV.R.set (MachV.R.set (MachV.withMem_R HR.out hB1 Hm1.out) oB (.of ob0) (.slice m.mem.pA m.mem.hs.length m.mem.pc)) oB (.set (.of ob1) _) (.slice (some ⟨G, 0, none⟩) m.mem.vs.length m.mem.vs.length)) oW (.set (.set (.of ox0) _) _) (.int .i64 g.x.v)) oW (.set (.set (.set (.of ox1) _) _) _) (.int .u32 g.x.r)) oW (.set (.set (.set (.set (.of ox2) _) _) _) _) (.int .u32 g.x.f)))
 have hB2 : Below w.heap.size w w2 := by rw [hw2]; exact (Below.setCell (Below.setCell (Below.setCell (Below.setCell (Below.setCell hB1 (p := ⟨w.heap.size, 0, none⟩) (by show w.heap.size ≤ w.heap.size; omega) (.slice m.mem.pA m.mem.hs.length m.mem.pc)) (p := ⟨w.heap.size, 1, none⟩) (by show w.heap.size ≤ w.heap.size; omega) (.slice (some ⟨G, 0, none⟩) m.mem.vs.length m.mem.vs.length)) (p := ⟨w.heap.size + 1 + 1 + 1 + 1, 0, none⟩) ab23 (.int .i64 g.x.v)) (p := ⟨w.heap.size + 1 + 1 + 1 + 1, 1, none⟩) ab23 (.int .u32 g.x.r)) (p := ⟨w.heap.size + 1 + 1 + 1 + 1, 2, none⟩) ab23 (.int .u32 g.x.f))
 have Hs2 := hide hs2
 rw [← hw2]
 clear hw2 hs2 ob0 ob1 ob2 ob3 ob4 ob5 ob6 or0 or1 or2 or3 or4 or5 or6 og0 og1 og2 og3 ox0 ox1 ox2 ofr ofg Hm1
 refine wp_region_held_drew (S := (fun w' => (w'.cell? ⟨w.heap.size, 0, none⟩ = some (.slice m.mem.pA m.mem.hs.length m.mem.pc) ∧ w'.cell? ⟨w.heap.size, 1, none⟩ = some (.slice (some ⟨G, 0, none⟩) m.mem.vs.length m.mem.vs.length) ∧ w'.cell? ⟨w.heap.size, 2, none⟩ = some (.slice m.ln.fA m.ln.first.length m.ln.fc) ∧ w'.cell? ⟨w.heap.size, 3, none⟩ = some (.slice m.ln.lA m.ln.logs.length m.ln.lc) ∧ w'.cell? ⟨w.heap.size, 4, none⟩ = some (.map m.ln.asks) ∧ w'.cell? ⟨w.heap.size, 5, none⟩ = some (.slice m.sA m.steps.length m.sc) ∧ w'.cell? ⟨w.heap.size, 6, none⟩ = some (.int .i64 m.crashes)) ∧ (w'.cell? ⟨w.heap.size + 1 + 1 + 1 + 1, 0, none⟩ = some (.int .i64 g.x.v) ∧ w'.cell? ⟨w.heap.size + 1 + 1 + 1 + 1, 1, none⟩ = some (.int .u32 g.x.r) ∧ w'.cell? ⟨w.heap.size + 1 + 1 + 1 + 1, 2, none⟩ = some (.int .u32 g.x.f)))) kR (by first | with_reducible exact ⟨⟨pb0, pb1, pb2, pb3, pb4, pb5, pb6⟩, px0, px1, px2⟩ | exact ⟨⟨by go_simp, by go_simp, by go_simp, by go_simp, by go_simp, by go_simp, by go_simp⟩, by go_simp, by go_simp, by go_simp⟩) (fun hHeld => ?_)
 refine tq1 0 ?_
 refine tq1 1 ?_
 refine tq1 2 ?_
 refine wE 3 fun K hK => ?_
 go_simp
 go_wp2_with fail
 refine oK hK (by first | with_reducible exact ⟨⟨pb0, pb1, pb2, pb3, pb4, pb5, pb6⟩, px0, px1, px2⟩ | exact ⟨⟨by go_simp, by go_simp, by go_simp, by go_simp, by go_simp, by go_simp, by go_simp⟩, by go_simp, by go_simp, by go_simp⟩) fun hHeld => ?_
 clear hK K
 refine wE 4 fun K hK => ?_
 go_simp
 go_wp2_with fail
 refine oK hK (by first | with_reducible exact ⟨⟨pb0, pb1, pb2, pb3, pb4, pb5, pb6⟩, px0, px1, px2⟩ | exact ⟨⟨by go_simp, by go_simp, by go_simp, by go_simp, by go_simp, by go_simp, by go_simp⟩, by go_simp, by go_simp, by go_simp⟩) fun hHeld => ?_
 clear hK K
 refine wD ?_
 all_goals go_wp2_with fail
 all_goals have hGw : w.heap.size ≤ G := by omega
 all_goals have HZ := hide (MachV.R.set (MachV.R.set (MachV.R.set (MachV.R.set (MachV.R.set (MachV.R.set (MachV.R.set (MachV.R.set (MachV.R.set (MachV.R.set (MachV.R.set HM2.out oR (.of pr0) (.slice m.mem.pA m.mem.hs.length m.mem.pc)) oR (.set (.of pr1) _) (.slice (some ⟨G, 0, none⟩) m.mem.vs.length m.mem.vs.length)) oR (.set (.set (.of pr2) _) _) (.slice m.ln.fA m.ln.first.length m.ln.fc)) oR (.set (.set (.set (.of pr3) _) _) _) (.slice m.ln.lA m.ln.logs.length m.ln.lc)) oR (.set (.set (.set (.set (.of pr4) _) _) _) _) (.map m.ln.asks)) oR (.set (.set (.set (.set (.set (.of pr5) _) _) _) _) _) (.slice m.sA m.steps.length m.sc)) oR (.set (.set (.set (.set (.set (.set (.of pr6) _) _) _) _) _) _) (.int .i64 m.crashes)) oG (.set (.set (.set (.set (.set (.set (.set (.of pg0) _) _) _) _) _) _) _) (.int .i64 g.x.v)) oG (.set (.set (.set (.set (.set (.set (.set (.set (.of pg1) _) _) _) _) _) _) _) _) (.int .u32 g.x.r)) oG (.set (.set (.set (.set (.set (.set (.set (.set (.set (.of pg2) _) _) _) _) _) _) _) _) _) (.int .u32 g.x.f)) oG (.set (.set (.set (.set (.set (.set (.set (.set (.set (.set (.of pg3) _) _) _) _) _) _) _) _) _) _) (.bool true))
 all_goals have HB := hide (Below.setCell (Below.setCell (Below.setCell (Below.setCell (Below.setCell (Below.setCell (Below.setCell (Below.setCell (Below.setCell (Below.setCell (Below.setCell hB2 (p := ⟨w.heap.size + 1 + 1, 0, none⟩) ab4 (.slice m.mem.pA m.mem.hs.length m.mem.pc)) (p := ⟨w.heap.size + 1 + 1, 1, none⟩) ab4 (.slice (some ⟨G, 0, none⟩) m.mem.vs.length m.mem.vs.length)) (p := ⟨w.heap.size + 1 + 1, 2, none⟩) ab4 (.slice m.ln.fA m.ln.first.length m.ln.fc)) (p := ⟨w.heap.size + 1 + 1, 3, none⟩) ab4 (.slice m.ln.lA m.ln.logs.length m.ln.lc)) (p := ⟨w.heap.size + 1 + 1, 4, none⟩) ab4 (.map m.ln.asks)) (p := ⟨w.heap.size + 1 + 1, 5, none⟩) ab4 (.slice m.sA m.steps.length m.sc)) (p := ⟨w.heap.size + 1 + 1, 6, none⟩) ab4 (.int .i64 m.crashes)) (p := ⟨w.heap.size + 1 + 1 + 1, 0, none⟩) ab14 (.int .i64 g.x.v)) (p := ⟨w.heap.size + 1 + 1 + 1, 1, none⟩) ab14 (.int .u32 g.x.r)) (p := ⟨w.heap.size + 1 + 1 + 1, 2, none⟩) ab14 (.int .u32 g.x.f)) (p := ⟨w.heap.size + 1 + 1 + 1, 3, none⟩) ab14 (.bool true))
 all_goals have hLs : (m.mem.vs.set t ⟨v1, fq⟩).length = m.mem.vs.length := List.length_set
 all_goals refine bodyPost_ret (v := .tuple #[.agg #[.slice m.mem.pA m.mem.hs.length m.mem.pc, .slice (some ⟨G, 0, none⟩) m.mem.vs.length m.mem.vs.length, .slice m.ln.fA m.ln.first.length m.ln.fc, .slice m.ln.lA m.ln.logs.length m.ln.lc, .map m.ln.asks, .slice m.sA m.steps.length m.sc, .int .i64 m.crashes], .agg #[.int .i64 g.x.v, .int .u32 g.x.r, .int .u32 g.x.f, .bool true]]) (by simp [results, Tryz.results113, go_sem]; (try go_simp)) rfl ⟨G, v1, (by simp only [maV, MachV.withMem, MemV.with, hLs]), hGw, ?_, ?_⟩
 all_goals first
  | with_reducible exact HZ.out
  | with_reducible exact HZ.out.drew
  | with_reducible exact HB.out
  | with_reducible exact HB.out.drew) : p := h
theorem mach_look (m : MachV) (t k n : Nat) (ch : Int) (act : ActV) (h : HistV) (g : MsgV) (a : VwV) (w : World) (hop : act.op = 5) (hat : act.at_ = k) (hR : m.R w) (hh : m.mem.hs[k]? = some h) (hl : h.l.length = n + 1) (hg : h.l[n]? = some g) (ha : m.mem.vs[t]? = some a) (hn : m.mem.vs.length ≤ 1000) (hL : m.mem.hs.length ≤ 4096) (hi6 : n ≤ 1000000) :
  Calls Tryz.prog 113 #[(maV m), .int .i64 ((t : Int) + 1), (avV act), .int .i64 ch] w fun e w' => ∃ G v', e = .returned (.tuple #[(maV (m.withMem (m.mem.with (some ⟨G, 0, none⟩) m.mem.vs.length t ⟨v', joinF (withF a.f k n) g.a.f⟩))), .agg #[.int .i64 g.x.v, .int .u32 g.x.r, .int .u32 g.x.f, .bool true]]) ∧ w.heap.size ≤ G ∧ (m.withMem (m.mem.with (some ⟨G, 0, none⟩) m.mem.vs.length t ⟨v', joinF (withF a.f k n) g.a.f⟩)).R w' ∧ Below w.heap.size w w' := by
 try unfold avV
 have hlook := fun W (hw : m.mem.R W) => mem_Look m.mem t k n h g a W hw hh hl hg ha hn hL hi6
 obtain ⟨fq, hfq⟩ : ∃ f, f = joinF (withF a.f k n) g.a.f := ⟨_, rfl⟩
 rw [← hfq] at hlook ⊢
 clear hfq
 obtain ⟨op, z, old, new⟩ := act
 simp only at hop hat
 subst hop hat
 have Hlook := hide hlook
 have HR := hide hR
 have hLs : (m.mem.vs.set t ⟨a.v, a.f⟩).length = m.mem.vs.length := List.length_set
 clear hlook hR hh hl hg ha hn hL hi6 hLs
 go_enter Tryz.func113, Tryz.ntmps113
 go_wp2_with (first
  | (go_at_call 142; refine (Hlook.out _ (HR.out.1.below ab0)).mono ?_; rintro e w1 ⟨G, v1, rfl, hG, hm1, hb1⟩; obtain ⟨hcc1, hff1, hs1⟩ := bC hb1; (try simp at hs1); (try simp at hG); have hz0 : w.heap.size < w1.heap.size := oM; have hz1 : w.heap.size + 1 < w1.heap.size := oM; have hz2 : w.heap.size + 1 + 1 < w1.heap.size := oM; have hz3 : w.heap.size + 1 + 1 + 1 < w1.heap.size := oM; have hz4 : w.heap.size + 1 + 1 + 1 + 1 < w1.heap.size := oM; have Hm1 := hide hm1; clear hm1))
 -- BEHIND
 ·exact abD0
theorem mach_load (m : MachV) (t k i : Nat) (ch : Int) (act : ActV) (h : HistV) (g : MsgV) (a : VwV) (w : World) (hop : act.op = 1) (hat : act.at_ = k) (hR : m.R w) (hh : m.mem.hs[k]? = some h) (hi : (i : Int) = chooseL h.l.length (a.f k) ch) (hg : h.l[i]? = some g) (ha : m.mem.vs[t]? = some a) (hn : m.mem.vs.length ≤ 1000) (hL : m.mem.hs.length ≤ 4096) (hi6 : h.l.length ≤ 1000000) (hc : (Lit.int .i64 ch).wf = true) :
  Calls Tryz.prog 113 #[(maV m), .int .i64 ((t : Int) + 1), (avV act), .int .i64 ch] w fun e w' => ∃ G v', e = .returned (.tuple #[(maV (m.withMem (m.mem.with (some ⟨G, 0, none⟩) m.mem.vs.length t ⟨v', findF false a.f g.a.f k i⟩))), .agg #[.int .i64 g.x.v, .int .u32 g.x.r, .int .u32 g.x.f, .bool true]]) ∧ w.heap.size ≤ G ∧ (m.withMem (m.mem.with (some ⟨G, 0, none⟩) m.mem.vs.length t ⟨v', findF false a.f g.a.f k i⟩)).R w' ∧ Below w.heap.size w w' := by
 try unfold avV
 have hlook := fun W (hw : m.mem.R W) => mem_Load m.mem t k i false ch h g a W hw hh hi hg ha hn hL hi6 hc
 obtain ⟨fq, hfq⟩ : ∃ f, f = findF false a.f g.a.f k i := ⟨_, rfl⟩
 rw [← hfq] at hlook ⊢
 clear hfq
 obtain ⟨op, z, old, new⟩ := act
 simp only at hop hat
 subst hop hat
 have Hlook := hide hlook
 have HR := hide hR
 have hLs : (m.mem.vs.set t ⟨a.v, a.f⟩).length = m.mem.vs.length := List.length_set
 clear hlook hR hh hg ha hn hL hi6 hLs
 go_enter Tryz.func113, Tryz.ntmps113
 go_wp2_with (first
  | (go_at_call 143; refine (Hlook.out _ (HR.out.1.below ab0)).mono ?_; rintro e w1 ⟨G, v1, rfl, hG, hm1, hb1⟩; obtain ⟨hcc1, hff1, hs1⟩ := bC hb1; (try simp at hs1); (try simp at hG); have hz0 : w.heap.size < w1.heap.size := oM; have hz1 : w.heap.size + 1 < w1.heap.size := oM; have hz2 : w.heap.size + 1 + 1 < w1.heap.size := oM; have hz3 : w.heap.size + 1 + 1 + 1 < w1.heap.size := oM; have hz4 : w.heap.size + 1 + 1 + 1 + 1 < w1.heap.size := oM; have Hm1 := hide hm1; clear hm1))
 -- BEHIND
 ·exact abD0
theorem mach_acq (m : MachV) (t k i : Nat) (ch : Int) (act : ActV) (h : HistV) (g : MsgV) (a : VwV) (w : World) (hop : act.op = 2) (hat : act.at_ = k) (hR : m.R w) (hh : m.mem.hs[k]? = some h) (hi : (i : Int) = chooseL h.l.length (a.f k) ch) (hg : h.l[i]? = some g) (ha : m.mem.vs[t]? = some a) (hn : m.mem.vs.length ≤ 1000) (hL : m.mem.hs.length ≤ 4096) (hi6 : h.l.length ≤ 1000000) (hc : (Lit.int .i64 ch).wf = true) :
  Calls Tryz.prog 113 #[(maV m), .int .i64 ((t : Int) + 1), (avV act), .int .i64 ch] w fun e w' => ∃ G v', e = .returned (.tuple #[(maV (m.withMem (m.mem.with (some ⟨G, 0, none⟩) m.mem.vs.length t ⟨v', findF true a.f g.a.f k i⟩))), .agg #[.int .i64 g.x.v, .int .u32 g.x.r, .int .u32 g.x.f, .bool true]]) ∧ w.heap.size ≤ G ∧ (m.withMem (m.mem.with (some ⟨G, 0, none⟩) m.mem.vs.length t ⟨v', findF true a.f g.a.f k i⟩)).R w' ∧ Below w.heap.size w w' := by
 try unfold avV
 have hlook := fun W (hw : m.mem.R W) => mem_Load m.mem t k i true ch h g a W hw hh hi hg ha hn hL hi6 hc
 obtain ⟨fq, hfq⟩ : ∃ f, f = findF true a.f g.a.f k i := ⟨_, rfl⟩
 rw [← hfq] at hlook ⊢
 clear hfq
 obtain ⟨op, z, old, new⟩ := act
 simp only at hop hat
 subst hop hat
 have Hlook := hide hlook
 have HR := hide hR
 have hLs : (m.mem.vs.set t ⟨a.v, a.f⟩).length = m.mem.vs.length := List.length_set
 clear hlook hR hh hg ha hn hL hi6 hLs
 go_enter Tryz.func113, Tryz.ntmps113
 go_wp2_with (first
  | (go_at_call 143; refine (Hlook.out _ (HR.out.1.below ab0)).mono ?_; rintro e w1 ⟨G, v1, rfl, hG, hm1, hb1⟩; obtain ⟨hcc1, hff1, hs1⟩ := bC hb1; (try simp at hs1); (try simp at hG); have hz0 : w.heap.size < w1.heap.size := oM; have hz1 : w.heap.size + 1 < w1.heap.size := oM; have hz2 : w.heap.size + 1 + 1 < w1.heap.size := oM; have hz3 : w.heap.size + 1 + 1 + 1 < w1.heap.size := oM; have hz4 : w.heap.size + 1 + 1 + 1 + 1 < w1.heap.size := oM; have Hm1 := hide hm1; clear hm1))
 -- BEHIND
 ·exact abD0
end Go.Proofs.YtnnmenmifphadaaGreatDoor
