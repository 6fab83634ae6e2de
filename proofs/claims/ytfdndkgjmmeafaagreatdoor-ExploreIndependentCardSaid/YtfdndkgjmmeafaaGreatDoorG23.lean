/- Package memory: Load. -/
import Derived.Test.YtfdndkgjmmeafaaGreatDoorG21
import Derived.Test.YtfdndkgjmmeafaaGreatDoorG22
namespace Go.Proofs.YtfdndkgjmmeafaaGreatDoor
set_option linter.unusedSimpArgs false
set_option linter.unusedVariables false
open Go.RowKit Go.Maps
theorem some_enters (args : Array Value) (w : World) : (callFunc 158 args).run Tryz.prog w = .ok (.enter 158 args) w := enters Tryz.func158 (by kernel_rfl) rfl args w
theorem pick_some (h : HistV) (i c : Int) (w : World) (h0 : 0 < h.l.length) (h6 : h.l.length ≤ 1000000) (hc : (Lit.int .i64 c).wf = true) : Calls Tryz.prog 158 #[.int .i64 c, (.agg #[.slice (h).A (h).l.length (h).cap]), .int .i64 i] w fun e w' => e = .returned (.int .i64 (chooseL h.l.length i c)) ∧ Below w.heap.size w w' := by
  have hch := fun W => hist_choose h h.l.length i c W rfl h0 h6 hc
  have Hch := hide hch
  clear hch h0 h6
  go_enter Tryz.func158, Tryz.ntmps158
  go_wp2_with (first | (go_at_call 172; refine (Hch.out _).mono ?_; rintro e w1 ⟨rfl, hb1⟩; obtain ⟨hcc1, hff1⟩ := bcell hb1; have hs1 := hb1.size; (try simp at hs1)))
  go_ret
  exact ⟨rfl, ab0⟩
set_option maxHeartbeats 2000000 in
set_option maxRecDepth 100000 in
theorem mem_Load (m : MemV) (t k i : Nat) (j : Bool) (c : Int) (h : HistV) (g : MsgV) (a : VwV) (w : World) (hR : m.R w) (hh : m.hs[k]? = some h) (hi : (i : Int) = chooseL h.l.length (a.f k) c) (hg : h.l[i]? = some g) (ha : m.vs[t]? = some a) (hn : m.vs.length ≤ 1000) (hL : m.hs.length ≤ 4096) (hi6 : h.l.length ≤ 1000000) (hc : (Lit.int .i64 c).wf = true) :
    Calls Tryz.prog 148 #[(.agg #[.slice (m).pA (m).hs.length (m).pc, .slice (m).vA (m).vs.length (m).vc]), .int .i64 ((t : Int) + 1), .int .i64 k, .bool j, .int .i64 c] w fun e w' => ∃ G v', e = .returned (.tuple #[.agg #[.slice m.pA m.hs.length m.pc, .slice (some ⟨G, 0, none⟩) m.vs.length m.vs.length], (.agg #[.int .i64 (g.x).v, .int .u32 (g.x).r, .int .u32 (g.x).f]), .int .i64 0]) ∧ w.heap.size ≤ G ∧ (m.with (some ⟨G, 0, none⟩) m.vs.length t ⟨v', findF j a.f g.a.f k i⟩).R w' ∧ Below w.heap.size w w' := by
  have htn : t < m.vs.length := (List.getElem?_eq_some_iff.1 ha).1
  have hlook := fun W (hw : m.R W) => mem_lookj j m 158 (.int .i64 c) t k i h g a W hw hh hg ha hn hL (by have := (List.getElem?_eq_some_iff.1 hg).1; omega) some_enters (fun W2 _ => by have q := pick_some h (a.f k) c W2 (by have := (List.getElem?_eq_some_iff.1 hg).1; omega) hi6 hc; rw [← hi] at q; exact q)
  obtain ⟨pA, pc, hs, vA, vc, vs⟩ := m
  simp only at hlook htn
  have Hlook := hide hlook
  have HR := hide hR
  clear hlook hR hh hg ha hn hL hi6 hi
  go_enter Tryz.func148, Tryz.ntmps148
  go_wp2_with (first
    | (go_at_call 156; refine (Hlook.out _ (HR.out.below ab0)).mono ?_; rintro e w1 ⟨g5, v5, rfl, hg5, hm5, hb1⟩; (try simp at hg5); obtain ⟨hcc1, hff1⟩ := bcell hb1; have hs1 := hb1.size; (try simp at hs1); have hz1 : w.heap.size + 1 < w1.heap.size := (by omega); have hz2 : w.heap.size + 1 + 1 < w1.heap.size := (by omega); have Hv5 : Hid (NewV hs.length g5 vs.length (vs.set t ⟨v5, findF j a.f g.a.f k i⟩) ⟨v5, findF j a.f g.a.f k i⟩ w1) := hide (NewV.of rfl htn hm5); clear hm5))
  have c0 : w1.cell? ⟨w.heap.size + 1, 0, none⟩ = some (.slice none 0 0) := by go_simp
  have c1 : w1.cell? ⟨w.heap.size + 1, 1, none⟩ = some (.slice none 0 0) := by go_simp
  have c2 : w1.cell? ⟨w.heap.size + 1 + 1, 0, none⟩ = some (.int .i64 0) := by go_simp
  have c3 : w1.cell? ⟨w.heap.size + 1 + 1, 1, none⟩ = some (.int .u32 0) := by go_simp
  have c4 : w1.cell? ⟨w.heap.size + 1 + 1, 2, none⟩ = some (.int .u32 0) := by go_simp
  have hB1 : Below w.heap.size w w1 := ab0
  have Hvz := hide (NewV.five Hv5.out (c := w.heap.size + 1) (d := w.heap.size + 1 + 1) (by omega) (by omega) c0 c1 c2 c3 c4 (.slice pA hs.length pc) (.slice (some ⟨g5, 0, none⟩) vs.length vs.length) (.int .i64 g.x.v) (.int .u32 g.x.r) (.int .u32 g.x.f))
  have HBz := hide (Below.five hB1 (c := w.heap.size + 1) (d := w.heap.size + 1 + 1) (by omega) (by omega) (.slice pA hs.length pc) (.slice (some ⟨g5, 0, none⟩) vs.length vs.length) (.int .i64 g.x.v) (.int .u32 g.x.r) (.int .u32 g.x.f))
  refine bodyPost_ret (v := .tuple #[.agg #[.slice pA hs.length pc, .slice (some ⟨g5, 0, none⟩) vs.length vs.length], (.agg #[.int .i64 (g.x).v, .int .u32 (g.x).r, .int .u32 (g.x).f]), .int .i64 0]) (by simp [results, Tryz.results148, go_sem]; (try go_simp)) rfl ⟨g5, v5, rfl, by omega, MemV.with_R HR.out ?_ rfl ?_ ?_, ?_⟩
  · with_reducible exact HBz.out
  · with_reducible exact Hvz.out.rd
  · with_reducible exact Hvz.out.r
  · with_reducible exact HBz.out
end Go.Proofs.YtfdndkgjmmeafaaGreatDoor

