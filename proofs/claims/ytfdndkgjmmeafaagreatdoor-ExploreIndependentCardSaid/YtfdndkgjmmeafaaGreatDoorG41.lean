/- Tasks that run the law's codes: Start, Done, Act, Give. -/
import Derived.Test.YtfdndkgjmmeafaaGreatDoorG14
import Derived.Test.YtfdndkgjmmeafaaGreatDoorG31
import Derived.Test.YtfdndkgjmmeafaaGreatDoorG34
import Derived.Test.YtfdndkgjmmeafaaGreatDoorG40
namespace Go.Proofs.YtfdndkgjmmeafaaGreatDoor
set_option linter.unusedSimpArgs false
set_option linter.unusedVariables false
open Go.RowKit Go.Maps Go.Sort
/-- A task that runs a code of type T with value p: its act, or done. -/
def TS (T : TypeId) (p : Value) (d : Bool) (a : AS) (k : TaskV) : Prop := k.c = .iface T p ∧ ((d = false ∧ k.a = a ∧ k.nx = (.func (Fn.method "Next") #[.iface T p] #[])) ∨ (d = true ∧ k.a = A0 ∧ k.nx = .nilFunc))
theorem TS.ok {T : TypeId} {p : Value} {d : Bool} {a : AS} {k : TaskV} (h : TS T p d a k) : k.ok := by
  obtain ⟨h1, h2⟩ := h
  refine ⟨⟨T, p, h1⟩, ?_⟩
  rcases h2 with ⟨_, _, h2⟩ | ⟨_, _, h2⟩
  · exact .inl ⟨T, p, h2⟩
  · exact .inr h2
theorem TS.done {T : TypeId} {p : Value} {d : Bool} {a : AS} {k : TaskV} (h : TS T p d a k) : k.done = d := by
  obtain ⟨_, ⟨rfl, _, h2⟩ | ⟨rfl, _, h2⟩⟩ := h
  · simp [TaskV.done, h2]
  · simp [TaskV.done, h2]
/-- A row of acts at its i-th act: the code's value behind it, the act, whether it is done. -/
def rowS (A : Option Addr) (cap : Nat) (l : List AS) (i : Nat) : Value × AS × Bool := match l[i]? with
  | some a => (rowV A l.length cap (i + 1), a, false)
  | none => (rowV A l.length cap i, A0, true)
theorem row_next (A : Option Addr) (cap i : Nat) (l : List AS) (g : GS) (w : World) (hr : Rd w w.heap.size 8 A l.length (l.flatMap actc)) (hi6 : i ≤ 1000) :
    Calls Tryz.prog 198 #[rowV A l.length cap i, .agg #[.int .i64 g.v, .int .u32 g.r, .int .u32 g.f, .bool g.k]] w fun e w' => e = .returned (.tuple #[.iface 60 (rowS A cap l i).1, .agg #[.int .i64 ((rowS A cap l i).2.1).o, .int .i64 ((rowS A cap l i).2.1).l, .int .i64 ((rowS A cap l i).2.1).v, .int .u32 ((rowS A cap l i).2.1).r, .int .u32 ((rowS A cap l i).2.1).f, .int .i64 ((rowS A cap l i).2.1).v2, .int .u32 ((rowS A cap l i).2.1).r2, .int .u32 ((rowS A cap l i).2.1).f2], .bool (rowS A cap l i).2.2]) ∧ Below w.heap.size w w' := by
  unfold rowS
  cases ha : l[i]? with
  | some a => exact row_on A l.length cap i l a g.v g.r g.f g.k w hr (List.getElem?_eq_some_iff.1 ha).1 ha hi6
  | none => exact row_end A l.length cap i g.v g.r g.f g.k w (List.getElem?_eq_none_iff.1 ha) hi6
/-- A task that runs a row of acts, at its i-th act. -/
def RT (A : Option Addr) (cap : Nat) (l : List AS) (i : Nat) (k : TaskV) : Prop := TS 60 (rowS A cap l i).1 (rowS A cap l i).2.2 (rowS A cap l i).2.1 k
theorem rt_start (A : Option Addr) (cap : Nat) (l : List AS) (w : World) (hr : Rd w w.heap.size 8 A l.length (l.flatMap actc)) :
    ∃ k : TaskV, (RT A cap l 0 k ∧ k.A = none ∧ k.m = 0 ∧ k.cp = 0 ∧ k.l = []) ∧ ∀ W, Below w.heap.size w W → Calls Tryz.prog 23 #[.iface 60 (rowV A l.length cap 0)] W fun e w' => e = .returned (.agg #[(k).c, (k).nx, .int .i64 ((k).a).o, .int .i64 ((k).a).l, .int .i64 ((k).a).v, .int .u32 ((k).a).r, .int .u32 ((k).a).f, .int .i64 ((k).a).v2, .int .u32 ((k).a).r2, .int .u32 ((k).a).f2, .slice (k).A (k).m (k).cp]) ∧ Below W.heap.size W w' := by
  have hn := fun W (h : Below w.heap.size w W) => row_next A cap 0 l G0 W ((hr.below h).more h.size) (by omega)
  cases hd : (rowS A cap l 0).2.2 with
  | false =>
    refine ⟨⟨.iface 60 (rowS A cap l 0).1, (.func (Fn.method "Next") #[.iface 60 (rowS A cap l 0).1] #[]), (rowS A cap l 0).2.1, none, 0, 0, []⟩, ⟨⟨rfl, .inl ⟨hd, rfl, rfl⟩⟩, rfl, rfl, rfl, rfl⟩, fun W hW => ?_⟩
    refine start_go 60 198 (rowV A l.length cap 0) (rowS A cap l 0).1 (rowS A cap l 0).2.1 W codeT_row row_meth row_enter (fun W2 h2 => ?_)
    have q := hn W2 (hW.trans (h2.mono hW.size))
    rw [hd] at q
    exact q
  | true =>
    refine ⟨⟨.iface 60 (rowS A cap l 0).1, .nilFunc, A0, none, 0, 0, []⟩, ⟨⟨rfl, .inr ⟨hd, rfl, rfl⟩⟩, rfl, rfl, rfl, rfl⟩, fun W hW => ?_⟩
    refine start_done 60 198 (rowV A l.length cap 0) (rowS A cap l 0).1 (rowS A cap l 0).2.1 W codeT_row row_meth row_enter (fun W2 h2 => ?_)
    have q := hn W2 (hW.trans (h2.mono hW.size))
    rw [hd] at q
    exact q
theorem rt_give (A : Option Addr) (cap i : Nat) (l : List AS) (a : AS) (k : TaskV) (w : World) (hr : Rd w w.heap.size 8 A l.length (l.flatMap actc)) (hi6 : i + 1 ≤ 1000) (ha : l[i]? = some a) (hk : RT A cap l i k) (hm : k.m ≤ 1000) (x : W3) (ok : Bool) (W : World) (hW : Below w.heap.size w W) (hg : GotsR W k.A k.m k.cp (k.l.flatMap gotc)) :
    Calls Tryz.prog 110 #[(.agg #[(k).c, (k).nx, .int .i64 ((k).a).o, .int .i64 ((k).a).l, .int .i64 ((k).a).v, .int .u32 ((k).a).r, .int .u32 ((k).a).f, .int .i64 ((k).a).v2, .int .u32 ((k).a).r2, .int .u32 ((k).a).f2, .slice (k).A (k).m (k).cp]), (.agg #[.int .i64 (x).v, .int .u32 (x).r, .int .u32 (x).f, .bool ok])] W fun e w' => ∃ k' : TaskV, e = .returned (.agg #[(k').c, (k').nx, .int .i64 ((k').a).o, .int .i64 ((k').a).l, .int .i64 ((k').a).v, .int .u32 ((k').a).r, .int .u32 ((k').a).f, .int .i64 ((k').a).v2, .int .u32 ((k').a).r2, .int .u32 ((k').a).f2, .slice (k').A (k').m (k').cp]) ∧ (RT A cap l (i + 1) k' ∧ k'.m = k.m + 1 ∧ k'.l = k.l ++ [⟨x.v, x.r, x.f, ok⟩]) ∧ GotsR w' k'.A k'.m k'.cp (k'.l.flatMap gotc) ∧ k'.ok ∧ (∀ C, C < W.heap.size → OffC C k.m k.A → OffC C k'.m k'.A) ∧ Below W.heap.size W w' := by
  have hn := fun W (h : Below w.heap.size w W) => row_next A cap (i + 1) l ⟨x.v, x.r, x.f, ok⟩ W ((hr.below h).more h.size) hi6
  have hs : rowS A cap l i = (rowV A l.length cap (i + 1), a, false) := by unfold rowS; rw [ha]
  unfold RT at hk
  rw [hs] at hk
  obtain ⟨c, nx, ka, kA, m, cp, gl⟩ := k
  obtain ⟨h1, h2⟩ := hk
  simp only at h1 h2 hm hg
  subst h1
  rcases h2 with ⟨-, rfl, rfl⟩ | ⟨h3, _, _⟩
  · cases hd : (rowS A cap l (i + 1)).2.2 with
    | false =>
      refine (give_go 60 198 (rowV A l.length cap (i + 1)) (rowS A cap l (i + 1)).1 (.iface 60 (rowV A l.length cap (i + 1))) ka (rowS A cap l (i + 1)).2.1 ⟨x.v, x.r, x.f, ok⟩ kA m cp W codeT_row row_meth row_enter hm _ hg (fun W2 h2 => ?_)).mono ?_
      · have q := hn W2 (hW.trans (h2.mono hW.size))
        rw [hd] at q
        exact q
      · rintro e w' ⟨A', cp', rfl, hg', hnew, hb⟩
        have hts : TS 60 (rowS A cap l (i + 1)).1 (rowS A cap l (i + 1)).2.2 (rowS A cap l (i + 1)).2.1 ⟨.iface 60 (rowS A cap l (i + 1)).1, (.func (Fn.method "Next") #[.iface 60 (rowS A cap l (i + 1)).1] #[]), (rowS A cap l (i + 1)).2.1, A', m + 1, cp', gl ++ [⟨x.v, x.r, x.f, ok⟩]⟩ := ⟨rfl, .inl ⟨hd, rfl, rfl⟩⟩
        exact ⟨_, rfl, ⟨hts, rfl, rfl⟩, by simpa using hg', hts.ok, (fun C hC _ _ b o e => by have := hnew b o e; omega), hb⟩
    | true =>
      refine (give_done 60 198 (rowV A l.length cap (i + 1)) (rowS A cap l (i + 1)).1 (.iface 60 (rowV A l.length cap (i + 1))) ka (rowS A cap l (i + 1)).2.1 ⟨x.v, x.r, x.f, ok⟩ kA m cp W codeT_row row_meth row_enter hm _ hg (fun W2 h2 => ?_)).mono ?_
      · have q := hn W2 (hW.trans (h2.mono hW.size))
        rw [hd] at q
        exact q
      · rintro e w' ⟨A', cp', rfl, hg', hnew, hb⟩
        have hts : TS 60 (rowS A cap l (i + 1)).1 (rowS A cap l (i + 1)).2.2 (rowS A cap l (i + 1)).2.1 ⟨.iface 60 (rowS A cap l (i + 1)).1, .nilFunc, A0, A', m + 1, cp', gl ++ [⟨x.v, x.r, x.f, ok⟩]⟩ := ⟨rfl, .inr ⟨hd, rfl, rfl⟩⟩
        exact ⟨_, rfl, ⟨hts, rfl, rfl⟩, by simpa using hg', hts.ok, (fun C hC _ _ b o e => by have := hnew b o e; omega), hb⟩
  · cases h3
end Go.Proofs.YtfdndkgjmmeafaaGreatDoor

namespace Go.Proofs.YtfdndkgjmmeafaaGreatDoor
set_option linter.unusedSimpArgs false
set_option linter.unusedVariables false
open Go.RowKit Go.Maps Go.Sort
/-- What a machine shows: the messages, the threads' views, the lines' logs. -/
structure MW where
  hs : List (List (W3 × Int × (Int → Int)))
  vs : List (Int → Int)
  logs : List (Int × List (Int × W3))
def msgP (g : MsgV) : W3 × Int × (Int → Int) := (g.x, g.t, g.a.f)
def logP (g : LogV) : Int × List (Int × W3) := (g.kept, g.l)
def MShows (m : MachV) (Q : MW) : Prop := m.mem.hs.map (fun h => h.l.map msgP) = Q.hs ∧ m.mem.vs.map VwV.f = Q.vs ∧ m.ln.logs.map logP = Q.logs ∧ m.ln.first.length = Q.hs.length ∧ m.ln.asks = none ∧ m.steps.length = Q.vs.length
def MW.load (Q : MW) (t : Nat) (f : Int → Int) : MW := ⟨Q.hs, Q.vs.set t f, Q.logs⟩
def MW.store (Q : MW) (t k : Nat) (l : List (W3 × Int × (Int → Int))) (vt : Int → Int) (x : W3) (lg : Int × List (Int × W3)) : MW :=
  ⟨Q.hs.set k (l ++ [(x, (t : Int) + 1, toldF false vt k l.length)]), Q.vs.set t (withF vt k l.length), Q.logs.set (k / 8) (lg.1, lg.2 ++ [((k : Int), x)])⟩
theorem map_at {α β : Type} {f : α → β} {l : List α} {r : List β} {k : Nat} {b : β} (h : l.map f = r) (hb : r[k]? = some b) : ∃ a, l[k]? = some a ∧ f a = b := by
  rw [← h, List.getElem?_map, Option.map_eq_some_iff] at hb
  exact hb
theorem map_len {α β : Type} {f : α → β} {l : List α} {r : List β} (h : l.map f = r) : l.length = r.length := by rw [← h, List.length_map]
theorem do_load (m : MachV) (Q : MW) (t k i : Nat) (ch : Int) (act : ActV) (l : List (W3 × Int × (Int → Int))) (x : W3) (τ : Int) (f vt : Int → Int) (W : World) (hR : m.R W) (hQ : MShows m Q) (hop : act.op = 1) (hat : act.at_ = k) (hl : Q.hs[k]? = some l) (hi : (i : Int) = chooseL l.length (vt k) ch) (hg : l[i]? = some (x, τ, f)) (hv : Q.vs[t]? = some vt) (hn : Q.vs.length ≤ 1000) (hL : Q.hs.length ≤ 4096) (hl6 : l.length ≤ 1000000) (hc : (Lit.int .i64 ch).wf = true) :
    Calls Tryz.prog 108 #[.agg #[.slice (m).mem.pA (m).mem.hs.length (m).mem.pc, .slice (m).mem.vA (m).mem.vs.length (m).mem.vc, .slice (m).ln.fA (m).ln.first.length (m).ln.fc, .slice (m).ln.lA (m).ln.logs.length (m).ln.lc, .map (m).ln.asks, .slice (m).sA (m).steps.length (m).sc, .int .i64 (m).crashes], .int .i64 ((t : Int) + 1), (.agg #[.int .i64 (act).op, .int .i64 (act).at_, .int .i64 (act).old.v, .int .u32 (act).old.r, .int .u32 (act).old.f, .int .i64 (act).new.v, .int .u32 (act).new.r, .int .u32 (act).new.f]), .int .i64 ch] W fun e w' => ∃ (m2 : MachV) (y : W3) (ok : Bool), e = .returned (.tuple #[.agg #[.slice (m2).mem.pA (m2).mem.hs.length (m2).mem.pc, .slice (m2).mem.vA (m2).mem.vs.length (m2).mem.vc, .slice (m2).ln.fA (m2).ln.first.length (m2).ln.fc, .slice (m2).ln.lA (m2).ln.logs.length (m2).ln.lc, .map (m2).ln.asks, .slice (m2).sA (m2).steps.length (m2).sc, .int .i64 (m2).crashes], (.agg #[.int .i64 (y).v, .int .u32 (y).r, .int .u32 (y).f, .bool ok]), .int .i64 0]) ∧ (MShows m2 (Q.load t (withF vt k i)) ∧ y = x ∧ ok = true) ∧ m2.R w' ∧ (∀ C, C < W.heap.size → m.off C → m2.off C) ∧ Below W.heap.size W w' := by
  obtain ⟨q1, q2, q3, q4, q5, q6⟩ := hQ
  obtain ⟨h, hh, e1⟩ := map_at q1 hl
  obtain ⟨g, hgg, e2⟩ := map_at e1 hg
  obtain ⟨a, ha, e3⟩ := map_at q2 hv
  have l1 := map_len q1
  have l2 := map_len q2
  have l3 := map_len e1
  subst e3
  have ht : t < m.mem.vs.length := (List.getElem?_eq_some_iff.1 ha).1
  have hk : k < m.mem.hs.length := (List.getElem?_eq_some_iff.1 hh).1
  have hs : m.steps[t]? = some (m.steps[t]'(by omega)) := List.getElem?_eq_getElem _
  refine (mach_do_read m t _ ch act W (fun m1 y ok => MShows m1 (Q.load t (withF a.f k i)) ∧ y = x ∧ ok = true) hR ht (by omega) hs (by omega) (.inl hop) (by omega) (fun W2 hR2 => ?_)).mono ?_
  · refine (mach_load m t k i ch act h g a W2 hop hat hR2 hh (by rw [l3]; exact hi) hgg ha (by omega) (by omega) (by omega) hc).mono ?_
    rintro e w' ⟨G, v', rfl, hG, hR3, hb3⟩
    refine ⟨_, g.x, true, rfl, ⟨⟨q1, ?_, q3, q4, q5, ?_⟩, (congrArg Prod.fst e2), rfl⟩, ⟨rfl, rfl, rfl, rfl⟩, hR3, (fun C hC hm => MachV.withMem_off hm (MemV.off_with hm.1 (by omega))), hb3⟩
    · show (m.mem.vs.set t ⟨v', findF false a.f g.a.f k i⟩).map VwV.f = Q.vs.set t (withF a.f k i)
      rw [List.map_set, q2]
      rfl
    · show m.steps.length = (Q.vs.set t _).length
      rw [List.length_set]
      exact q6
  · rintro e w' ⟨m1, y, ok, gs, sc', rfl, ⟨⟨p1, p2, p3, p4, p5, p6⟩, rfl, rfl⟩, hR2, hoff, hb⟩
    exact ⟨_, _, _, rfl, ⟨⟨p1, p2, p3, p4, p5, by show (m1.steps.set t _).length = _; rw [List.length_set]; exact p6⟩, rfl, rfl⟩, hR2, hoff, hb⟩
theorem do_store (m : MachV) (Q : MW) (t k : Nat) (ch : Int) (act : ActV) (l : List (W3 × Int × (Int → Int))) (vt : Int → Int) (lg : Int × List (Int × W3)) (W : World) (hR : m.R W) (hQ : MShows m Q) (hop : act.op = 3) (hat : act.at_ = k) (hl : Q.hs[k]? = some l) (hv : Q.vs[t]? = some vt) (hlg : Q.logs[k / 8]? = some lg) (hn : Q.vs.length ≤ 1000) (hL : Q.hs.length ≤ 4096) (hl6 : l.length ≤ 1000000) (hlo : Q.logs.length ≤ 4096) (hg6 : lg.2.length ≤ 1000000) :
    Calls Tryz.prog 108 #[.agg #[.slice (m).mem.pA (m).mem.hs.length (m).mem.pc, .slice (m).mem.vA (m).mem.vs.length (m).mem.vc, .slice (m).ln.fA (m).ln.first.length (m).ln.fc, .slice (m).ln.lA (m).ln.logs.length (m).ln.lc, .map (m).ln.asks, .slice (m).sA (m).steps.length (m).sc, .int .i64 (m).crashes], .int .i64 ((t : Int) + 1), (.agg #[.int .i64 (act).op, .int .i64 (act).at_, .int .i64 (act).old.v, .int .u32 (act).old.r, .int .u32 (act).old.f, .int .i64 (act).new.v, .int .u32 (act).new.r, .int .u32 (act).new.f]), .int .i64 ch] W fun e w' => ∃ (m2 : MachV) (y : W3) (ok : Bool), e = .returned (.tuple #[.agg #[.slice (m2).mem.pA (m2).mem.hs.length (m2).mem.pc, .slice (m2).mem.vA (m2).mem.vs.length (m2).mem.vc, .slice (m2).ln.fA (m2).ln.first.length (m2).ln.fc, .slice (m2).ln.lA (m2).ln.logs.length (m2).ln.lc, .map (m2).ln.asks, .slice (m2).sA (m2).steps.length (m2).sc, .int .i64 (m2).crashes], (.agg #[.int .i64 (y).v, .int .u32 (y).r, .int .u32 (y).f, .bool ok]), .int .i64 0]) ∧ (MShows m2 (Q.store t k l vt act.new lg) ∧ y = ⟨0, 0, 0⟩ ∧ ok = true) ∧ m2.R w' ∧ (∀ C, C < W.heap.size → m.off C → m2.off C) ∧ Below W.heap.size W w' := by
  obtain ⟨q1, q2, q3, q4, q5, q6⟩ := hQ
  obtain ⟨h, hh, e1⟩ := map_at q1 hl
  obtain ⟨a, ha, e3⟩ := map_at q2 hv
  obtain ⟨lgv, hlgv, e4⟩ := map_at q3 hlg
  have l1 := map_len q1
  have l2 := map_len q2
  have l3 := map_len e1
  have l4 := map_len q3
  subst e3 e4
  have ht : t < m.mem.vs.length := (List.getElem?_eq_some_iff.1 ha).1
  have hk : k < m.mem.hs.length := (List.getElem?_eq_some_iff.1 hh).1
  have hs : m.steps[t]? = some (m.steps[t]'(by omega)) := List.getElem?_eq_getElem _
  refine (mach_do_write m t _ ch act W (fun m1 y ok => MShows m1 (Q.store t k l a.f act.new (logP lgv)) ∧ y = ⟨0, 0, 0⟩ ∧ ok = true) hR ht (by omega) hs (by omega) (.inl hop) (by omega) (fun W2 hR2 => ?_)).mono ?_
  · refine (mach_store m t k act h a W2 hop hat hR2 hh ha (by omega) (by omega) (by omega) lgv (by omega) hlgv (by omega) (by omega) hg6).mono ?_
    rintro e w' ⟨g9, pc', g7, cap', G, v', vt', g1, lc', g2, cp2, rfl, ⟨b1, b2, b3, b4, b5⟩, hR3, hb3⟩
    refine ⟨_, ⟨0, 0, 0⟩, true, rfl, ⟨⟨?_, ?_, ?_, ?_, q5, ?_⟩, rfl, rfl⟩, ⟨rfl, rfl, rfl, rfl⟩, hR3, (fun C hC hm => ⟨MemV.off_added hm.1 (by omega) (by omega) (by omega), LinesV.off_stored hm.2.1 (by omega) (by omega), hm.2.2⟩), hb3⟩
    · show (m.mem.hs.set k _).map (fun h => h.l.map msgP) = Q.hs.set k _
      rw [List.map_set, q1, List.map_append, e1, l3]
      rfl
    · show (m.mem.vs.set t _).map VwV.f = Q.vs.set t _
      rw [List.map_set, q2, l3]
    · show (m.ln.logs.set (k / 8) _).map logP = Q.logs.set (k / 8) _
      rw [List.map_set, q3]
      rfl
    · show m.ln.first.length = (Q.hs.set k _).length
      rw [List.length_set]
      exact q4
    · show m.steps.length = (Q.vs.set t _).length
      rw [List.length_set]
      exact q6
  · rintro e w' ⟨m1, y, ok, gs, sc', rfl, ⟨⟨p1, p2, p3, p4, p5, p6⟩, rfl, rfl⟩, hR2, hoff, hb⟩
    exact ⟨_, _, _, rfl, ⟨⟨p1, p2, p3, p4, p5, by show (m1.steps.set t _).length = _; rw [List.length_set]; exact p6⟩, rfl, rfl⟩, hR2, hoff, hb⟩
end Go.Proofs.YtfdndkgjmmeafaaGreatDoor

namespace Go.Proofs.YtfdndkgjmmeafaaGreatDoor
set_option linter.unusedSimpArgs false
set_option linter.unusedVariables false
open Go.RowKit Go.Maps Go.Sort
/-- A thread's row of acts, and how far it is. -/
structure RowP where
  A : Option Addr
  cap : Nat
  l : List AS
  i : Nat
/-- What a world shows. -/
structure PW where
  q : MW
  rows : List RowP
  gots : List (List GS)
def Shows (V : WorldV) (P : PW) : Prop := MShows V.M P.q ∧ V.ts.map TaskV.l = P.gots ∧ V.ss = List.replicate P.rows.length false ∧ V.ts.length = P.rows.length ∧ ∀ (t : Nat) (k : TaskV) (r : RowP), V.ts[t]? = some k → P.rows[t]? = some r → RT r.A r.cap r.l r.i k
def RowsR (w : World) (P : PW) : Prop := ∀ r ∈ P.rows, Rd w w.heap.size 8 r.A r.l.length (r.l.flatMap actc) ∧ r.i + 1 ≤ 1000
theorem RowsR.below {w w' : World} {P : PW} (h : RowsR w P) (hb : Below w.heap.size w w') : RowsR w' P := fun r hr => ⟨((h r hr).1.below hb).more hb.size, (h r hr).2⟩
def PW.step (P : PW) (t : Nat) (q : MW) (r : RowP) (gl : List GS) (g : GS) : PW := ⟨q, P.rows.set t ⟨r.A, r.cap, r.l, r.i + 1⟩, P.gots.set t (gl ++ [g])⟩
theorem rt_done {A : Option Addr} {cap i : Nat} {l : List AS} {k : TaskV} (h : RT A cap l i k) (W : World) : Calls Tryz.prog 42 #[(.agg #[(k).c, (k).nx, .int .i64 ((k).a).o, .int .i64 ((k).a).l, .int .i64 ((k).a).v, .int .u32 ((k).a).r, .int .u32 ((k).a).f, .int .i64 ((k).a).v2, .int .u32 ((k).a).r2, .int .u32 ((k).a).f2, .slice (k).A (k).m (k).cp])] W fun e w' => e = .returned (.bool (rowS A cap l i).2.2) ∧ Below W.heap.size W w' := by
  have q := task_done k W (TS.ok h)
  rw [TS.done h] at q
  exact q
theorem rt_act {A : Option Addr} {cap i : Nat} {l : List AS} {a : AS} {k : TaskV} (h : RT A cap l i k) (ha : l[i]? = some a) (W : World) : k.a = a ∧ Calls Tryz.prog 68 #[(.agg #[(k).c, (k).nx, .int .i64 ((k).a).o, .int .i64 ((k).a).l, .int .i64 ((k).a).v, .int .u32 ((k).a).r, .int .u32 ((k).a).f, .int .i64 ((k).a).v2, .int .u32 ((k).a).r2, .int .u32 ((k).a).f2, .slice (k).A (k).m (k).cp])] W fun e w' => e = .returned (.tuple #[.agg #[.int .i64 (k.a).o, .int .i64 (k.a).l, .int .i64 (k.a).v, .int .u32 (k.a).r, .int .u32 (k.a).f, .int .i64 (k.a).v2, .int .u32 (k.a).r2, .int .u32 (k.a).f2], .bool true]) ∧ Below W.heap.size W w' := by
  have hs : rowS A cap l i = (rowV A l.length cap (i + 1), a, false) := by unfold rowS; rw [ha]
  unfold RT at h
  rw [hs] at h
  obtain ⟨c, nx, ka, kA, m, cp, gl⟩ := k
  obtain ⟨h1, h2⟩ := h
  simp only at h1 h2
  subst h1
  rcases h2 with ⟨-, rfl, rfl⟩ | ⟨h3, _, _⟩
  · exact ⟨rfl, act_no _ _ _ _ _ _ _ W⟩
  · cases h3
set_option maxHeartbeats 2000000 in
theorem step_row (V : WorldV) (P : PW) (w : World) (t : Nat) (ch : Int) (r : RowP) (a : AS) (gl : List GS) (q' : MW) (x : W3) (ok : Bool) (hR : V.R w) (hS : Shows V P) (hRows : RowsR w P) (hr : P.rows[t]? = some r) (ha : r.l[r.i]? = some a) (hg : P.gots[t]? = some gl) (hn : P.rows.length ≤ 1000) (hv : 0 < P.q.vs.length) (hgl : gl.length ≤ 1000)
    (hdo : ∀ W, V.M.R W → Calls Tryz.prog 108 #[.agg #[.slice (V.M).mem.pA (V.M).mem.hs.length (V.M).mem.pc, .slice (V.M).mem.vA (V.M).mem.vs.length (V.M).mem.vc, .slice (V.M).ln.fA (V.M).ln.first.length (V.M).ln.fc, .slice (V.M).ln.lA (V.M).ln.logs.length (V.M).ln.lc, .map (V.M).ln.asks, .slice (V.M).sA (V.M).steps.length (V.M).sc, .int .i64 (V.M).crashes], .int .i64 ((t : Int) + 1), .agg #[.int .i64 (a).o, .int .i64 (a).l, .int .i64 (a).v, .int .u32 (a).r, .int .u32 (a).f, .int .i64 (a).v2, .int .u32 (a).r2, .int .u32 (a).f2], .int .i64 ch] W fun e w' => ∃ (m2 : MachV) (y : W3) (k : Bool), e = .returned (.tuple #[.agg #[.slice (m2).mem.pA (m2).mem.hs.length (m2).mem.pc, .slice (m2).mem.vA (m2).mem.vs.length (m2).mem.vc, .slice (m2).ln.fA (m2).ln.first.length (m2).ln.fc, .slice (m2).ln.lA (m2).ln.logs.length (m2).ln.lc, .map (m2).ln.asks, .slice (m2).sA (m2).steps.length (m2).sc, .int .i64 (m2).crashes], (.agg #[.int .i64 (y).v, .int .u32 (y).r, .int .u32 (y).f, .bool k]), .int .i64 0]) ∧ (MShows m2 q' ∧ y = x ∧ k = ok) ∧ m2.R w' ∧ (∀ C, C < W.heap.size → V.M.off C → m2.off C) ∧ Below W.heap.size W w') :
    Calls Tryz.prog 51 #[(.agg #[.slice ((V).M).mem.pA ((V).M).mem.hs.length ((V).M).mem.pc, .slice ((V).M).mem.vA ((V).M).mem.vs.length ((V).M).mem.vc, .slice ((V).M).ln.fA ((V).M).ln.first.length ((V).M).ln.fc, .slice ((V).M).ln.lA ((V).M).ln.logs.length ((V).M).ln.lc, .map ((V).M).ln.asks, .slice ((V).M).sA ((V).M).steps.length ((V).M).sc, .int .i64 ((V).M).crashes, .slice (V).tA (V).ts.length (V).tc, .slice (V).sA (V).ss.length (V).sc]), .agg #[.int .i64 0, .int .i64 ((t : Int) + 1), .int .i64 ch]] w fun e w' => ∃ V2 : WorldV, e = .returned (.tuple #[(.agg #[.slice ((V2).M).mem.pA ((V2).M).mem.hs.length ((V2).M).mem.pc, .slice ((V2).M).mem.vA ((V2).M).mem.vs.length ((V2).M).mem.vc, .slice ((V2).M).ln.fA ((V2).M).ln.first.length ((V2).M).ln.fc, .slice ((V2).M).ln.lA ((V2).M).ln.logs.length ((V2).M).ln.lc, .map ((V2).M).ln.asks, .slice ((V2).M).sA ((V2).M).steps.length ((V2).M).sc, .int .i64 ((V2).M).crashes, .slice (V2).tA (V2).ts.length (V2).tc, .slice (V2).sA (V2).ss.length (V2).sc]), .bool true]) ∧ Shows V2 (P.step t q' r gl ⟨x.v, x.r, x.f, ok⟩) ∧ V2.R w' ∧ (∀ C, C < w.heap.size → V.off C → V2.off C) ∧ Below w.heap.size w w' := by
  obtain ⟨s1, s2, s3, s4, s5⟩ := hS
  have ht : t < P.rows.length := (List.getElem?_eq_some_iff.1 hr).1
  obtain ⟨k, hk, hkl⟩ := map_at s2 hg
  have hrt := s5 t k r hk hr
  have hss : V.ss[t]? = some false := by rw [s3, List.getElem?_replicate, if_pos ht]
  have hvl := map_len s1.2.1
  have hs : (rowS r.A r.cap r.l r.i).2.2 = false := by unfold rowS; rw [ha]
  obtain ⟨hrd, hr6⟩ := hRows r (List.mem_of_getElem? hr)
  refine world_Step_go V t ch w (fun V2 => Shows V2 (P.step t q' r gl ⟨x.v, x.r, x.f, ok⟩)) hR (by omega) (fun W2 hR2 => ?_) (fun W2 hW2 hR2 => ?_)
  · exact world_takes V t k false W2 hR2 hk (by omega) hss (fun W3 => by have q := rt_done hrt W3; rwa [hs] at q)
  · have hact := rt_act hrt ha
    refine (world_step V t ch k W2 true (fun m2 y ok' => MShows m2 q' ∧ y = x ∧ ok' = ok) (fun y ok' k' => RT r.A r.cap r.l (r.i + 1) k' ∧ k'.m = k.m + 1 ∧ k'.l = k.l ++ [⟨y.v, y.r, y.f, ok'⟩]) hR2 hk (by omega) (fun W => (hact W).2) (fun W3 hR3 => ?_) (fun m2 y ok' W3 hE hW3 hg3 => ?_)).mono ?_
    · rw [(hact W3).1]
      exact hdo W3 hR3
    · have hkm : k.l.length = k.m := gots_length hg3
      exact rt_give r.A r.cap r.i r.l a k W2 ((hrd.below hW2).more hW2.size) hr6 ha hrt (by rw [← hkm, hkl]; exact hgl) y ok' W3 hW3 hg3
    · rintro e w' ⟨m2, y, ok', k', gs, tc', rfl, ⟨hQ, rfl, rfl⟩, ⟨hG, hG2, hG3⟩, hR4, hoff, hb⟩
      refine ⟨_, rfl, ⟨hQ, ?_, ?_, ?_, ?_⟩, hR4, hoff, hb⟩
      · show (V.ts.set t k').map TaskV.l = P.gots.set t _
        rw [List.map_set, s2, hG3, hkl]
      · show V.ss = List.replicate (P.rows.set t _).length false
        rw [List.length_set]
        exact s3
      · show (V.ts.set t k').length = (P.rows.set t _).length
        rw [List.length_set, List.length_set]
        exact s4
      · intro j kj rj hj1 hj2
        have hj1' : (V.ts.set t k')[j]? = some kj := hj1
        have hj2' : (P.rows.set t ⟨r.A, r.cap, r.l, r.i + 1⟩)[j]? = some rj := hj2
        by_cases e : t = j
        · subst e
          rw [List.getElem?_set_self (by omega)] at hj1' hj2'
          injection hj1' with hj1'
          injection hj2' with hj2'
          subst hj1' hj2'
          exact hG
        · rw [List.getElem?_set_ne e] at hj1' hj2'
          exact s5 j kj rj hj1' hj2'
end Go.Proofs.YtfdndkgjmmeafaaGreatDoor

namespace Go.Proofs.YtfdndkgjmmeafaaGreatDoor
set_option linter.unusedSimpArgs false
set_option linter.unusedVariables false
open Go.RowKit Go.Maps Go.Sort
set_option maxHeartbeats 2000000 in
set_option maxRecDepth 100000 in
theorem ex_after (V : WorldV) (t : Nat) (ch : Int) (w : World) (E : WorldV → Prop) (hR : V.R w)
    (hst : ∀ W, Below w.heap.size w W → V.R W → Calls Tryz.prog 51 #[(.agg #[.slice ((V).M).mem.pA ((V).M).mem.hs.length ((V).M).mem.pc, .slice ((V).M).mem.vA ((V).M).mem.vs.length ((V).M).mem.vc, .slice ((V).M).ln.fA ((V).M).ln.first.length ((V).M).ln.fc, .slice ((V).M).ln.lA ((V).M).ln.logs.length ((V).M).ln.lc, .map ((V).M).ln.asks, .slice ((V).M).sA ((V).M).steps.length ((V).M).sc, .int .i64 ((V).M).crashes, .slice (V).tA (V).ts.length (V).tc, .slice (V).sA (V).ss.length (V).sc]), .agg #[.int .i64 0, .int .i64 ((t : Int) + 1), .int .i64 ch]] W fun e w' => ∃ V2 : WorldV, e = .returned (.tuple #[(.agg #[.slice ((V2).M).mem.pA ((V2).M).mem.hs.length ((V2).M).mem.pc, .slice ((V2).M).mem.vA ((V2).M).mem.vs.length ((V2).M).mem.vc, .slice ((V2).M).ln.fA ((V2).M).ln.first.length ((V2).M).ln.fc, .slice ((V2).M).ln.lA ((V2).M).ln.logs.length ((V2).M).ln.lc, .map ((V2).M).ln.asks, .slice ((V2).M).sA ((V2).M).steps.length ((V2).M).sc, .int .i64 ((V2).M).crashes, .slice (V2).tA (V2).ts.length (V2).tc, .slice (V2).sA (V2).ss.length (V2).sc]), .bool true]) ∧ E V2 ∧ V2.R w' ∧ (∀ C, C < W.heap.size → V.off C → V2.off C) ∧ Below W.heap.size W w') :
    Calls Tryz.prog 29 #[(.agg #[.slice ((V).M).mem.pA ((V).M).mem.hs.length ((V).M).mem.pc, .slice ((V).M).mem.vA ((V).M).mem.vs.length ((V).M).mem.vc, .slice ((V).M).ln.fA ((V).M).ln.first.length ((V).M).ln.fc, .slice ((V).M).ln.lA ((V).M).ln.logs.length ((V).M).ln.lc, .map ((V).M).ln.asks, .slice ((V).M).sA ((V).M).steps.length ((V).M).sc, .int .i64 ((V).M).crashes, .slice (V).tA (V).ts.length (V).tc, .slice (V).sA (V).ss.length (V).sc]), .agg #[.int .i64 ((t : Int) + 1), .int .i64 ch]] w fun e w' => ∃ V2 : WorldV, e = .returned (.agg #[.slice ((V2).M).mem.pA ((V2).M).mem.hs.length ((V2).M).mem.pc, .slice ((V2).M).mem.vA ((V2).M).mem.vs.length ((V2).M).mem.vc, .slice ((V2).M).ln.fA ((V2).M).ln.first.length ((V2).M).ln.fc, .slice ((V2).M).ln.lA ((V2).M).ln.logs.length ((V2).M).ln.lc, .map ((V2).M).ln.asks, .slice ((V2).M).sA ((V2).M).steps.length ((V2).M).sc, .int .i64 ((V2).M).crashes, .slice (V2).tA (V2).ts.length (V2).tc, .slice (V2).sA (V2).ss.length (V2).sc]) ∧ E V2 ∧ V2.R w' ∧ (∀ C, C < w.heap.size → V.off C → V2.off C) ∧ Below w.heap.size w w' := by
  have Hst := hide hst
  have HR := hide hR
  clear hst hR
  go_enter Tryz.func29, Tryz.ntmps29
  go_upto_region 2 with (first
    | (go_at_call 51; refine (Hst.out _ (ab0) (HR.out.below ab0)).mono ?_; rintro e w1 ⟨V2, rfl, hE, hR2, hoff, hb1⟩; have hb := hb1; have hs1 := hb1.size; (try simp at hs1); have HR2 := hide hR2; have Hoff := hide hoff; have HE := hide hE; clear hR2 hoff hE))
  have oV : V2.off (w.heap.size + 1 + 1) := Hoff.out _ (by simp) (WorldV.off_new HR.out (by omega))
  have hB1 : Below w.heap.size w w1 := ab0
  have c0' : w1.cell? ⟨w.heap.size + 1 + 1, 0, none⟩ = some (.slice none 0 0) := (hb.cell (p := ⟨w.heap.size + 1 + 1, 0, none⟩) (by simp)).trans (by go_simp)
  have c1' : w1.cell? ⟨w.heap.size + 1 + 1, 1, none⟩ = some (.slice none 0 0) := (hb.cell (p := ⟨w.heap.size + 1 + 1, 1, none⟩) (by simp)).trans (by go_simp)
  have c2' : w1.cell? ⟨w.heap.size + 1 + 1, 2, none⟩ = some (.slice none 0 0) := (hb.cell (p := ⟨w.heap.size + 1 + 1, 2, none⟩) (by simp)).trans (by go_simp)
  have c3' : w1.cell? ⟨w.heap.size + 1 + 1, 3, none⟩ = some (.slice none 0 0) := (hb.cell (p := ⟨w.heap.size + 1 + 1, 3, none⟩) (by simp)).trans (by go_simp)
  have c4' : w1.cell? ⟨w.heap.size + 1 + 1, 4, none⟩ = some (.map none) := (hb.cell (p := ⟨w.heap.size + 1 + 1, 4, none⟩) (by simp)).trans (by go_simp)
  have c5' : w1.cell? ⟨w.heap.size + 1 + 1, 5, none⟩ = some (.slice none 0 0) := (hb.cell (p := ⟨w.heap.size + 1 + 1, 5, none⟩) (by simp)).trans (by go_simp)
  have c6' : w1.cell? ⟨w.heap.size + 1 + 1, 6, none⟩ = some (.int .i64 0) := (hb.cell (p := ⟨w.heap.size + 1 + 1, 6, none⟩) (by simp)).trans (by go_simp)
  have c7' : w1.cell? ⟨w.heap.size + 1 + 1, 7, none⟩ = some (.slice none 0 0) := (hb.cell (p := ⟨w.heap.size + 1 + 1, 7, none⟩) (by simp)).trans (by go_simp)
  have c8' : w1.cell? ⟨w.heap.size + 1 + 1, 8, none⟩ = some (.slice none 0 0) := (hb.cell (p := ⟨w.heap.size + 1 + 1, 8, none⟩) (by simp)).trans (by go_simp)
  have fz : ∀ o, w1.frozen? ⟨w.heap.size + 1 + 1, o, none⟩ = false := fun o => (hb.frozen (p := ⟨w.heap.size + 1 + 1, o, none⟩) (by simp)).trans (by go_simp)
  obtain ⟨w2, hw2⟩ : ∃ W : World, W = w1.alloc (.cells #[.slice V2.M.mem.pA V2.M.mem.hs.length V2.M.mem.pc, .slice V2.M.mem.vA V2.M.mem.vs.length V2.M.mem.vc, .slice V2.M.ln.fA V2.M.ln.first.length V2.M.ln.fc, .slice V2.M.ln.lA V2.M.ln.logs.length V2.M.ln.lc, .map V2.M.ln.asks, .slice V2.M.sA V2.M.steps.length V2.M.sc, .int .i64 V2.M.crashes, .slice V2.tA V2.ts.length V2.tc, .slice V2.sA V2.ss.length V2.sc] 46) := ⟨_, rfl⟩
  have hB12 : Below w1.heap.size w1 w2 := by rw [hw2]; exact Below.alloc (Below.refl _ _) (Nat.le_refl _) _
  have hz1 : w.heap.size + 1 + 1 < w1.heap.size := by omega
  have c0 := (hB12.cell (p := ⟨w.heap.size + 1 + 1, 0, none⟩) hz1).trans c0'
  have c1 := (hB12.cell (p := ⟨w.heap.size + 1 + 1, 1, none⟩) hz1).trans c1'
  have c2 := (hB12.cell (p := ⟨w.heap.size + 1 + 1, 2, none⟩) hz1).trans c2'
  have c3 := (hB12.cell (p := ⟨w.heap.size + 1 + 1, 3, none⟩) hz1).trans c3'
  have c4 := (hB12.cell (p := ⟨w.heap.size + 1 + 1, 4, none⟩) hz1).trans c4'
  have c5 := (hB12.cell (p := ⟨w.heap.size + 1 + 1, 5, none⟩) hz1).trans c5'
  have c6 := (hB12.cell (p := ⟨w.heap.size + 1 + 1, 6, none⟩) hz1).trans c6'
  have c7 := (hB12.cell (p := ⟨w.heap.size + 1 + 1, 7, none⟩) hz1).trans c7'
  have c8 := (hB12.cell (p := ⟨w.heap.size + 1 + 1, 8, none⟩) hz1).trans c8'
  have fz2 : ∀ o, w2.frozen? ⟨w.heap.size + 1 + 1, o, none⟩ = false := fun o => (hB12.frozen (p := ⟨w.heap.size + 1 + 1, o, none⟩) hz1).trans (fz o)
  have hobv : w2.heap[w1.heap.size]? = some (.cells #[.slice V2.M.mem.pA V2.M.mem.hs.length V2.M.mem.pc, .slice V2.M.mem.vA V2.M.mem.vs.length V2.M.mem.vc, .slice V2.M.ln.fA V2.M.ln.first.length V2.M.ln.fc, .slice V2.M.ln.lA V2.M.ln.logs.length V2.M.ln.lc, .map V2.M.ln.asks, .slice V2.M.sA V2.M.steps.length V2.M.sc, .int .i64 V2.M.crashes, .slice V2.tA V2.ts.length V2.tc, .slice V2.sA V2.ss.length V2.sc] 46 (0, 0)) := by rw [hw2]; exact heap_new _ _ rfl
  have d0 : w2.cell? ⟨w1.heap.size, 0, none⟩ = some (.slice V2.M.mem.pA V2.M.mem.hs.length V2.M.mem.pc) := by simp [World.cell?, hobv]
  have d1 : w2.cell? ⟨w1.heap.size, 1, none⟩ = some (.slice V2.M.mem.vA V2.M.mem.vs.length V2.M.mem.vc) := by simp [World.cell?, hobv]
  have d2 : w2.cell? ⟨w1.heap.size, 2, none⟩ = some (.slice V2.M.ln.fA V2.M.ln.first.length V2.M.ln.fc) := by simp [World.cell?, hobv]
  have d3 : w2.cell? ⟨w1.heap.size, 3, none⟩ = some (.slice V2.M.ln.lA V2.M.ln.logs.length V2.M.ln.lc) := by simp [World.cell?, hobv]
  have d4 : w2.cell? ⟨w1.heap.size, 4, none⟩ = some (.map V2.M.ln.asks) := by simp [World.cell?, hobv]
  have d5 : w2.cell? ⟨w1.heap.size, 5, none⟩ = some (.slice V2.M.sA V2.M.steps.length V2.M.sc) := by simp [World.cell?, hobv]
  have d6 : w2.cell? ⟨w1.heap.size, 6, none⟩ = some (.int .i64 V2.M.crashes) := by simp [World.cell?, hobv]
  have d7 : w2.cell? ⟨w1.heap.size, 7, none⟩ = some (.slice V2.tA V2.ts.length V2.tc) := by simp [World.cell?, hobv]
  have d8 : w2.cell? ⟨w1.heap.size, 8, none⟩ = some (.slice V2.sA V2.ss.length V2.sc) := by simp [World.cell?, hobv]
  have hB2 : Below w.heap.size w w2 := hB1.trans (hB12.mono (by omega))
  have HR3 := hide (HR2.out.below hB12)
  have hz2 : w1.heap.size ≠ w.heap.size + 1 + 1 := by omega
  rw [← hw2]
  clear hw2 hb hb1 hobv c0' c1' c2' c3' c4' c5' c6' c7' c8' fz
  go_wp2_with fail
  have HZ := hide ((WorldV.R.set (WorldV.R.set (WorldV.R.set (WorldV.R.set (WorldV.R.set (WorldV.R.set (WorldV.R.set (WorldV.R.set (WorldV.R.set HR3.out oV (.of c0) (.slice V2.M.mem.pA V2.M.mem.hs.length V2.M.mem.pc)) oV (.set (.of c1) _) (.slice V2.M.mem.vA V2.M.mem.vs.length V2.M.mem.vc)) oV (.set (.set (.of c2) _) _) (.slice V2.M.ln.fA V2.M.ln.first.length V2.M.ln.fc)) oV (.set (.set (.set (.of c3) _) _) _) (.slice V2.M.ln.lA V2.M.ln.logs.length V2.M.ln.lc)) oV (.set (.set (.set (.set (.of c4) _) _) _) _) (.map V2.M.ln.asks)) oV (.set (.set (.set (.set (.set (.of c5) _) _) _) _) _) (.slice V2.M.sA V2.M.steps.length V2.M.sc)) oV (.set (.set (.set (.set (.set (.set (.of c6) _) _) _) _) _) _) (.int .i64 V2.M.crashes)) oV (.set (.set (.set (.set (.set (.set (.set (.of c7) _) _) _) _) _) _) _) (.slice V2.tA V2.ts.length V2.tc)) oV (.set (.set (.set (.set (.set (.set (.set (.set (.of c8) _) _) _) _) _) _) _) _) (.slice V2.sA V2.ss.length V2.sc)))
  have HB := hide ((Below.setCell (Below.setCell (Below.setCell (Below.setCell (Below.setCell (Below.setCell (Below.setCell (Below.setCell (Below.setCell hB2 (p := ⟨w.heap.size + 1 + 1, 0, none⟩) ab5 (.slice V2.M.mem.pA V2.M.mem.hs.length V2.M.mem.pc)) (p := ⟨w.heap.size + 1 + 1, 1, none⟩) ab5 (.slice V2.M.mem.vA V2.M.mem.vs.length V2.M.mem.vc)) (p := ⟨w.heap.size + 1 + 1, 2, none⟩) ab5 (.slice V2.M.ln.fA V2.M.ln.first.length V2.M.ln.fc)) (p := ⟨w.heap.size + 1 + 1, 3, none⟩) ab5 (.slice V2.M.ln.lA V2.M.ln.logs.length V2.M.ln.lc)) (p := ⟨w.heap.size + 1 + 1, 4, none⟩) ab5 (.map V2.M.ln.asks)) (p := ⟨w.heap.size + 1 + 1, 5, none⟩) ab5 (.slice V2.M.sA V2.M.steps.length V2.M.sc)) (p := ⟨w.heap.size + 1 + 1, 6, none⟩) ab5 (.int .i64 V2.M.crashes)) (p := ⟨w.heap.size + 1 + 1, 7, none⟩) ab5 (.slice V2.tA V2.ts.length V2.tc)) (p := ⟨w.heap.size + 1 + 1, 8, none⟩) ab5 (.slice V2.sA V2.ss.length V2.sc)))
  refine bodyPost_ret (v := (.agg #[.slice ((V2).M).mem.pA ((V2).M).mem.hs.length ((V2).M).mem.pc, .slice ((V2).M).mem.vA ((V2).M).mem.vs.length ((V2).M).mem.vc, .slice ((V2).M).ln.fA ((V2).M).ln.first.length ((V2).M).ln.fc, .slice ((V2).M).ln.lA ((V2).M).ln.logs.length ((V2).M).ln.lc, .map ((V2).M).ln.asks, .slice ((V2).M).sA ((V2).M).steps.length ((V2).M).sc, .int .i64 ((V2).M).crashes, .slice (V2).tA (V2).ts.length (V2).tc, .slice (V2).sA (V2).ss.length (V2).sc])) (by simp [results, Tryz.results29, go_sem]; (try go_simp)) rfl ⟨V2, rfl, HE.out, ?_, (fun C hC hV => Hoff.out C (by simp; omega) hV), ?_⟩
  · with_reducible exact HZ.out
  · with_reducible exact HB.out
end Go.Proofs.YtfdndkgjmmeafaaGreatDoor

namespace Go.Proofs.YtfdndkgjmmeafaaGreatDoor
set_option linter.unusedSimpArgs false
set_option linter.unusedVariables false
open Go.RowKit Go.Maps Go.Sort
set_option maxHeartbeats 4000000 in
set_option maxRecDepth 100000 in
theorem ex_pending (V : WorldV) (t : Nat) (k : TaskV) (d : Bool) (w : World) (hR : V.R w) (hk : V.ts[t]? = some k) (hn : V.ts.length ≤ 1000) (hs : V.ss[t]? = some false)
    (hact : ∀ W, Calls Tryz.prog 68 #[(.agg #[(k).c, (k).nx, .int .i64 ((k).a).o, .int .i64 ((k).a).l, .int .i64 ((k).a).v, .int .u32 ((k).a).r, .int .u32 ((k).a).f, .int .i64 ((k).a).v2, .int .u32 ((k).a).r2, .int .u32 ((k).a).f2, .slice (k).A (k).m (k).cp])] W fun e w' => e = .returned (.tuple #[.agg #[.int .i64 (k.a).o, .int .i64 (k.a).l, .int .i64 (k.a).v, .int .u32 (k.a).r, .int .u32 (k.a).f, .int .i64 (k.a).v2, .int .u32 (k.a).r2, .int .u32 (k.a).f2], .bool d]) ∧ Below W.heap.size W w') :
    Calls Tryz.prog 46 #[(.agg #[.slice ((V).M).mem.pA ((V).M).mem.hs.length ((V).M).mem.pc, .slice ((V).M).mem.vA ((V).M).mem.vs.length ((V).M).mem.vc, .slice ((V).M).ln.fA ((V).M).ln.first.length ((V).M).ln.fc, .slice ((V).M).ln.lA ((V).M).ln.logs.length ((V).M).ln.lc, .map ((V).M).ln.asks, .slice ((V).M).sA ((V).M).steps.length ((V).M).sc, .int .i64 ((V).M).crashes, .slice (V).tA (V).ts.length (V).tc, .slice (V).sA (V).ss.length (V).sc]), .int .i64 ((t : Int) + 1)] w fun e w' => e = .returned (.tuple #[.agg #[.int .i64 (k.a).o, .int .i64 (k.a).l, .int .i64 (k.a).v, .int .u32 (k.a).r, .int .u32 (k.a).f, .int .i64 (k.a).v2, .int .u32 (k.a).r2, .int .u32 (k.a).f2], .bool d]) ∧ Below w.heap.size w w' := by
  have ht : t < V.ts.length := (List.getElem?_eq_some_iff.1 hk).1
  have hts : t < V.ss.length := (List.getElem?_eq_some_iff.1 hs).1
  obtain ⟨bl, off, e, hbl, hcl⟩ := Rd.elem hR.2.1.2.2.1 taskc_len ht hk
  obtain ⟨bs, ofs, es, hbs, s0⟩ := Rd.one hR.2.2.2.2 hts hs
  have Hact := hide hact
  obtain ⟨M, tA, tc, ts, sA, sc, ss⟩ := V
  simp only at e es ht hn hts
  subst e es
  have g1 : ¬ ((t : Int) + 1 < 1) := by omega
  have g2 : ¬ ((t : Int) + 1 > (ts.length : Int)) := by omega
  have g2' : ¬ ((ts.length : Int) < (t : Int) + 1) := by omega
  have g3 : ¬ ((t : Int) + 1 > (ss.length : Int)) := by omega
  have g3' : ¬ ((ss.length : Int) < (t : Int) + 1) := by omega
  have h0 : (0 : Int) ≤ (t : Int) := by omega
  have h1 : (t : Int) < (ts.length : Int) := by omega
  have h2 : (t : Int) < (ss.length : Int) := by omega
  have hw1 : IntKind.i64.wrap ((t : Int) + 1 - 1) = (t : Int) := by rw [show (t : Int) + 1 - 1 = (t : Int) by omega]; exact IntWalk.i64_in _ (by omega)
  have hw2 : IntKind.i64.wrap (t : Int) = (t : Int) := IntWalk.i64_in _ (by omega)
  have hz : bl < w.heap.size + 1 := by omega
  have hz2 : bl < w.heap.size + 1 + 1 := by omega
  have hzs : bs < w.heap.size + 1 := by omega
  have hzs2 : bs < w.heap.size + 1 + 1 := by omega
  have t0 : w.cell? ⟨bl, off + t * 11, none⟩ = some (k.c) := hcl 0 _ rfl
  have t1 : w.cell? ⟨bl, off + t * 11 + 1, none⟩ = some (k.nx) := hcl 1 _ rfl
  have t2 : w.cell? ⟨bl, off + t * 11 + 2, none⟩ = some (.int .i64 k.a.o) := hcl 2 _ rfl
  have t3 : w.cell? ⟨bl, off + t * 11 + 3, none⟩ = some (.int .i64 k.a.l) := hcl 3 _ rfl
  have t4 : w.cell? ⟨bl, off + t * 11 + 4, none⟩ = some (.int .i64 k.a.v) := hcl 4 _ rfl
  have t5 : w.cell? ⟨bl, off + t * 11 + 5, none⟩ = some (.int .u32 k.a.r) := hcl 5 _ rfl
  have t6 : w.cell? ⟨bl, off + t * 11 + 6, none⟩ = some (.int .u32 k.a.f) := hcl 6 _ rfl
  have t7 : w.cell? ⟨bl, off + t * 11 + 7, none⟩ = some (.int .i64 k.a.v2) := hcl 7 _ rfl
  have t8 : w.cell? ⟨bl, off + t * 11 + 8, none⟩ = some (.int .u32 k.a.r2) := hcl 8 _ rfl
  have t9 : w.cell? ⟨bl, off + t * 11 + 9, none⟩ = some (.int .u32 k.a.f2) := hcl 9 _ rfl
  have t10 : w.cell? ⟨bl, off + t * 11 + 10, none⟩ = some (.slice k.A k.m k.cp) := hcl 10 _ rfl
  clear hR hact hs hk hcl ht hts hn
  go_enter Tryz.func46, Tryz.ntmps46
  go_wp2_with (first
    | (go_at_call 68; refine (Hact.out _).mono ?_; rintro e w1 ⟨rfl, hb1⟩; obtain ⟨hcc1, hff1⟩ := bcell hb1; have hs1 := hb1.size; (try simp at hs1); have hz10 : w.heap.size < w1.heap.size := (by omega); have hz11 : w.heap.size + 1 < w1.heap.size := (by omega)))
  exact bodyPost_ret (v := .tuple #[.agg #[.int .i64 (k.a).o, .int .i64 (k.a).l, .int .i64 (k.a).v, .int .u32 (k.a).r, .int .u32 (k.a).f, .int .i64 (k.a).v2, .int .u32 (k.a).r2, .int .u32 (k.a).f2], .bool d]) (by simp [results, Tryz.results46, go_sem]; (try go_simp)) rfl ⟨rfl, ab0⟩
end Go.Proofs.YtfdndkgjmmeafaaGreatDoor

