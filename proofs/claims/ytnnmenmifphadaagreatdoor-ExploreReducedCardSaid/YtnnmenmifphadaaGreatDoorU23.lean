/- Package memory: look, Look. -/
import Derived.Test.YtnnmenmifphadaaGreatDoorU22
set_option linter.unusedSimpArgs false
set_option linter.unusedVariables false
set_option maxRecDepth 100000
set_option maxHeartbeats 40000000
namespace Go.Proofs.YtnnmenmifphadaaGreatDoor
open Go.RowKit Go.Maps
theorem pick_last (h : HistV) (n : Nat) (c i : Int) (w : World) (hn : h.l.length = n + 1) (h6 : n ≤ 1000000) : Calls Tryz.prog 158 #[.int .i64 c, (.agg #[.slice (h).A (h).l.length (h).cap]), .int .i64 i] w (Ret (.int .i64 n) w) := by
 have hw : IntKind.i64.wrap ((h.l.length : Int) - 1) = (n : Int) := by rw [hn, show ((n + 1 : Nat) : Int) - 1 = (n : Int) by omega]; exact IntWalk.i64_in _ oM
 clear hn
 go_enter Tryz.func158, Tryz.ntmps158
 go_wp2_with (first | (go_at_call 46; refine (hist_len h _).mono ?_; rintro e w1 ⟨rfl, hb1⟩; obtain ⟨hcc1, hff1, hs1⟩ := bC hb1; (try simp at hs1)))
 go_ret
 exact ⟨rfl, ab0⟩
theorem mem_look_yes (m : MemV) (P : FuncId) (c : Value) (t k i : Nat) (h : HistV) (g : MsgV) (a : VwV) (w : World) (hR : m.R w) (hh : m.hs[k]? = some h) (hg : h.l[i]? = some g) (ha : m.vs[t]? = some a) (hn : m.vs.length ≤ 1000) (hL : m.hs.length ≤ 4096) (hi6 : i ≤ 1000000) (hent : ∀ args w, (callFunc P args).run Tryz.prog w = .ok (.enter P args) w)
  (hpick : ∀ W, h.R m.hs.length W → Calls Tryz.prog P #[c, (.agg #[.slice (h).A (h).l.length (h).cap]), .int .i64 (a.f k)] W (Ret (.int .i64 i) W)) :
  Calls Tryz.prog 157 #[(.agg #[.slice (m).pA (m).hs.length (m).pc, .slice (m).vA (m).vs.length (m).vc]), .int .i64 ((t : Int) + 1), .int .i64 k, .bool true, .func (Fn.func P) #[c] #[]] w fun e w' => ∃ G v', e = .returned (.tuple #[.agg #[.slice m.pA m.hs.length m.pc, .slice (some ⟨G, 0, none⟩) m.vs.length m.vs.length], (w3V g.x), .int .i64 0]) ∧ w.heap.size ≤ G ∧ (m.with (some ⟨G, 0, none⟩) m.vs.length t ⟨v', joinF (withF a.f k i) g.a.f⟩).R w' ∧ Below w.heap.size w w' := by
 have q := mem_lookj true m P c t k i h g a w hR hh hg ha hn hL hi6 hent hpick
 unfold findF at q
 rw [if_pos rfl] at q
 exact q
theorem enters {P : Program} {f : FuncId} {fn : Func} {c : Code} (hf : P.funcs[f]? = some fn) (hname : (fn.name == "runtime.NumGoroutine") = false) (hb : fn.body = some c) (args : Array Value) (w : World) : (callFunc f args).run P w = .ok (.enter f args) w := by
 have h1 : fn.name ≠ "runtime.NumGoroutine" := by simpa using hname
 simp [callFunc, go_sem, hf, h1, hb]
theorem last_enters (args : Array Value) (w : World) : (callFunc 158 args).run Tryz.prog w = .ok (.enter 158 args) w := enters Tryz.func158 kR rfl args w
theorem NewV.five {L g n c d : Nat} {vs : List VwV} {a : VwV} {w : World} (h : NewV L g n vs a w) (h1 : c ≠ g) (h2 : d ≠ g) {u0 u1 u2 u3 u4 : Value} (c0 : w.cell? ⟨c, 0, none⟩ = some u0) (c1 : w.cell? ⟨c, 1, none⟩ = some u1) (c2 : w.cell? ⟨d, 0, none⟩ = some u2) (c3 : w.cell? ⟨d, 1, none⟩ = some u3) (c4 : w.cell? ⟨d, 2, none⟩ = some u4) (x0 x1 x2 x3 x4 : Value) : NewV L g n vs a (((((w.setCell ⟨c, 0, none⟩ x0).setCell ⟨c, 1, none⟩ x1).setCell ⟨d, 0, none⟩ x2).setCell ⟨d, 1, none⟩ x3).setCell ⟨d, 2, none⟩ x4) :=
 NewV.set (NewV.set (NewV.set (NewV.set (NewV.set h h1 (.of c0) _) h1 (.set (.of c1) _) _) h2 (.set (.set (.of c2) _) _) _) h2 (.set (.set (.set (.of c3) _) _) _) _) h2 (.set (.set (.set (.set (.of c4) _) _) _) _) _
theorem Below.five {N c d : Nat} {w w' : World} (h : Below N w w') (h1 : N ≤ c) (h2 : N ≤ d) (x0 x1 x2 x3 x4 : Value) : Below N w (((((w'.setCell ⟨c, 0, none⟩ x0).setCell ⟨c, 1, none⟩ x1).setCell ⟨d, 0, none⟩ x2).setCell ⟨d, 1, none⟩ x3).setCell ⟨d, 2, none⟩ x4) :=
 Below.setCell (Below.setCell (Below.setCell (Below.setCell (Below.setCell h h1 _) h1 _) h2 _) h2 _) h2 _
theorem mem_Look (m : MemV) (t k n : Nat) (h : HistV) (g : MsgV) (a : VwV) (w : World) (hR : m.R w) (hh : m.hs[k]? = some h) (hl : h.l.length = n + 1) (hg : h.l[n]? = some g) (ha : m.vs[t]? = some a) (hn : m.vs.length ≤ 1000) (hL : m.hs.length ≤ 4096) (hi6 : n ≤ 1000000) :
  Calls Tryz.prog 142 #[(.agg #[.slice (m).pA (m).hs.length (m).pc, .slice (m).vA (m).vs.length (m).vc]), .int .i64 ((t : Int) + 1), .int .i64 k] w fun e w' => ∃ G v', e = .returned (.tuple #[.agg #[.slice m.pA m.hs.length m.pc, .slice (some ⟨G, 0, none⟩) m.vs.length m.vs.length], (w3V g.x), .int .i64 0]) ∧ w.heap.size ≤ G ∧ (m.with (some ⟨G, 0, none⟩) m.vs.length t ⟨v', joinF (withF a.f k n) g.a.f⟩).R w' ∧ Below w.heap.size w w' := by
 have htn : t < m.vs.length := (List.getElem?_eq_some_iff.1 ha).1
 have hlook := fun W (hw : m.R W) => mem_look_yes m 158 (.int .i64 0) t k n h g a W hw hh hg ha hn hL hi6 last_enters (fun W2 _ => pick_last h n 0 (a.f k) W2 hl hi6)
 obtain ⟨pA, pc, hs, vA, vc, vs⟩ := m
 simp only at hlook htn
 have Hlook := hide hlook
 have HR := hide hR
 clear hlook hR hh hg ha hn hL hi6 hl
 go_enter Tryz.func142, Tryz.ntmps142
 go_wp2_with (first
  | (go_at_call 157; refine (Hlook.out _ (HR.out.below ab0)).mono ?_; rintro e w1 ⟨g5, v5, rfl, hg5, hm5, hb1⟩; (try simp at hg5); obtain ⟨hcc1, hff1, hs1⟩ := bC hb1; (try simp at hs1); have hz1 : w.heap.size + 1 < w1.heap.size := oM; have hz2 : w.heap.size + 1 + 1 < w1.heap.size := oM; have Hv5 : Hid (NewV hs.length g5 vs.length (vs.set t ⟨v5, joinF (withF a.f k n) g.a.f⟩) ⟨v5, joinF (withF a.f k n) g.a.f⟩ w1) := hide (NewV.of rfl htn hm5); clear hm5))
 have c0 : w1.cell? ⟨w.heap.size + 1, 0, none⟩ = some (.slice none 0 0) := by go_simp
 have c1 : w1.cell? ⟨w.heap.size + 1, 1, none⟩ = some (.slice none 0 0) := by go_simp
 have c2 : w1.cell? ⟨w.heap.size + 1 + 1, 0, none⟩ = some (.int .i64 0) := by go_simp
 have c3 : w1.cell? ⟨w.heap.size + 1 + 1, 1, none⟩ = some (.int .u32 0) := by go_simp
 have c4 : w1.cell? ⟨w.heap.size + 1 + 1, 2, none⟩ = some (.int .u32 0) := by go_simp
 have hB1 : Below w.heap.size w w1 := ab0
 have Hvz := hide (NewV.five Hv5.out (c := w.heap.size + 1) (d := w.heap.size + 1 + 1) oM oM c0 c1 c2 c3 c4 (.slice pA hs.length pc) (.slice (some ⟨g5, 0, none⟩) vs.length vs.length) (.int .i64 g.x.v) (.int .u32 g.x.r) (.int .u32 g.x.f))
 have HBz := hide (Below.five hB1 (c := w.heap.size + 1) (d := w.heap.size + 1 + 1) oM oM (.slice pA hs.length pc) (.slice (some ⟨g5, 0, none⟩) vs.length vs.length) (.int .i64 g.x.v) (.int .u32 g.x.r) (.int .u32 g.x.f))
 refine bodyPost_ret (v := .tuple #[.agg #[.slice pA hs.length pc, .slice (some ⟨g5, 0, none⟩) vs.length vs.length], (.agg #[.int .i64 (g.x).v, .int .u32 (g.x).r, .int .u32 (g.x).f]), .int .i64 0]) (by simp [results, Tryz.results142, go_sem]; (try go_simp)) rfl ⟨g5, v5, rfl, by omega, MemV.with_R HR.out ?_ rfl ?_ ?_, ?_⟩
 ·with_reducible exact HBz.out
 ·with_reducible exact Hvz.out.rd
 ·with_reducible exact Hvz.out.r
 ·with_reducible exact HBz.out
theorem some_enters (args : Array Value) (w : World) : (callFunc 159 args).run Tryz.prog w = .ok (.enter 159 args) w := enters Tryz.func159 kR rfl args w
theorem pick_some (h : HistV) (i c : Int) (w : World) (h0 : 0 < h.l.length) (h6 : h.l.length ≤ 1000000) (hc : (Lit.int .i64 c).wf = true) : Calls Tryz.prog 159 #[.int .i64 c, (.agg #[.slice (h).A (h).l.length (h).cap]), .int .i64 i] w (Ret (.int .i64 (chooseL h.l.length i c)) w) := by
 have hch := fun W => hist_choose h h.l.length i c W rfl h0 h6 hc
 have Hch := hide hch
 clear hch h0 h6
 go_enter Tryz.func159, Tryz.ntmps159
 go_wp2_with (first | (go_at_call 171; refine (Hch.out _).mono ?_; rintro e w1 ⟨rfl, hb1⟩; obtain ⟨hcc1, hff1, hs1⟩ := bC hb1; (try simp at hs1)))
 go_ret
 exact ⟨rfl, ab0⟩
theorem mem_Load (m : MemV) (t k i : Nat) (j : Bool) (c : Int) (h : HistV) (g : MsgV) (a : VwV) (w : World) (hR : m.R w) (hh : m.hs[k]? = some h) (hi : (i : Int) = chooseL h.l.length (a.f k) c) (hg : h.l[i]? = some g) (ha : m.vs[t]? = some a) (hn : m.vs.length ≤ 1000) (hL : m.hs.length ≤ 4096) (hi6 : h.l.length ≤ 1000000) (hc : (Lit.int .i64 c).wf = true) :
  Calls Tryz.prog 143 #[(.agg #[.slice (m).pA (m).hs.length (m).pc, .slice (m).vA (m).vs.length (m).vc]), .int .i64 ((t : Int) + 1), .int .i64 k, .bool j, .int .i64 c] w fun e w' => ∃ G v', e = .returned (.tuple #[.agg #[.slice m.pA m.hs.length m.pc, .slice (some ⟨G, 0, none⟩) m.vs.length m.vs.length], (w3V g.x), .int .i64 0]) ∧ w.heap.size ≤ G ∧ (m.with (some ⟨G, 0, none⟩) m.vs.length t ⟨v', findF j a.f g.a.f k i⟩).R w' ∧ Below w.heap.size w w' := by
 have htn : t < m.vs.length := (List.getElem?_eq_some_iff.1 ha).1
 have hlook := fun W (hw : m.R W) => mem_lookj j m 159 (.int .i64 c) t k i h g a W hw hh hg ha hn hL (by have := (List.getElem?_eq_some_iff.1 hg).1; omega) some_enters (fun W2 _ => by have q := pick_some h (a.f k) c W2 (by have := (List.getElem?_eq_some_iff.1 hg).1; omega) hi6 hc; rw [← hi] at q; exact q)
 obtain ⟨pA, pc, hs, vA, vc, vs⟩ := m
 simp only at hlook htn
 have Hlook := hide hlook
 have HR := hide hR
 clear hlook hR hh hg ha hn hL hi6 hi
 go_enter Tryz.func143, Tryz.ntmps143
 go_wp2_with (first
  | (go_at_call 157; refine (Hlook.out _ (HR.out.below ab0)).mono ?_; rintro e w1 ⟨g5, v5, rfl, hg5, hm5, hb1⟩; (try simp at hg5); obtain ⟨hcc1, hff1, hs1⟩ := bC hb1; (try simp at hs1); have hz1 : w.heap.size + 1 < w1.heap.size := oM; have hz2 : w.heap.size + 1 + 1 < w1.heap.size := oM; have Hv5 : Hid (NewV hs.length g5 vs.length (vs.set t ⟨v5, findF j a.f g.a.f k i⟩) ⟨v5, findF j a.f g.a.f k i⟩ w1) := hide (NewV.of rfl htn hm5); clear hm5))
 have c0 : w1.cell? ⟨w.heap.size + 1, 0, none⟩ = some (.slice none 0 0) := by go_simp
 have c1 : w1.cell? ⟨w.heap.size + 1, 1, none⟩ = some (.slice none 0 0) := by go_simp
 have c2 : w1.cell? ⟨w.heap.size + 1 + 1, 0, none⟩ = some (.int .i64 0) := by go_simp
 have c3 : w1.cell? ⟨w.heap.size + 1 + 1, 1, none⟩ = some (.int .u32 0) := by go_simp
 have c4 : w1.cell? ⟨w.heap.size + 1 + 1, 2, none⟩ = some (.int .u32 0) := by go_simp
 have hB1 : Below w.heap.size w w1 := ab0
 have Hvz := hide (NewV.five Hv5.out (c := w.heap.size + 1) (d := w.heap.size + 1 + 1) oM oM c0 c1 c2 c3 c4 (.slice pA hs.length pc) (.slice (some ⟨g5, 0, none⟩) vs.length vs.length) (.int .i64 g.x.v) (.int .u32 g.x.r) (.int .u32 g.x.f))
 have HBz := hide (Below.five hB1 (c := w.heap.size + 1) (d := w.heap.size + 1 + 1) oM oM (.slice pA hs.length pc) (.slice (some ⟨g5, 0, none⟩) vs.length vs.length) (.int .i64 g.x.v) (.int .u32 g.x.r) (.int .u32 g.x.f))
 refine bodyPost_ret (v := .tuple #[.agg #[.slice pA hs.length pc, .slice (some ⟨g5, 0, none⟩) vs.length vs.length], (.agg #[.int .i64 (g.x).v, .int .u32 (g.x).r, .int .u32 (g.x).f]), .int .i64 0]) (by simp [results, Tryz.results143, go_sem]; (try go_simp)) rfl ⟨g5, v5, rfl, by omega, MemV.with_R HR.out ?_ rfl ?_ ?_, ?_⟩
 ·with_reducible exact HBz.out
 ·with_reducible exact Hvz.out.rd
 ·with_reducible exact Hvz.out.r
 ·with_reducible exact HBz.out
end Go.Proofs.YtnnmenmifphadaaGreatDoor
