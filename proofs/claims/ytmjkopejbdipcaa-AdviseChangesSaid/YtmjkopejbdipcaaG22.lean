/- A machine of one word and three threads: what an act does to its newest word. -/
import Derived.Test.YtmjkopejbdipcaaG21
namespace Go.Proofs.Ytmjkopejbdipcaa
set_option linter.unusedSimpArgs false
set_option linter.unusedVariables false
open Go.RowKit Go.Maps
/-- The newest word of the one location; no more than B stores were made. -/
def LastW (x : W3) (B : Nat) (m : MachV) : Prop := m.mem.hs.length = 1 ∧ m.mem.vs.length = 3 ∧ m.ln.first.length = 1 ∧ m.ln.logs.length = 1 ∧ m.steps.length = 3 ∧ (∃ (h : HistV) (n : Nat) (g : MsgV), m.mem.hs[0]? = some h ∧ h.l.length = n + 1 ∧ h.l[n]? = some g ∧ g.x = x ∧ n ≤ B) ∧ (∃ lg : LogV, m.ln.logs[0]? = some lg ∧ lg.l.length ≤ B)
/-- What an act gives, and the newest word behind it. -/
def actGot (x : W3) (a : ActV) : W3 × Bool := if a.op = 0 then (⟨0, 0, 0⟩, true) else if a.op = 5 then (x, true) else (x, eq3 x a.old)
def actWord (x : W3) (a : ActV) : W3 := if a.op = 6 then (if eq3 x a.old then a.new else x) else x
def DoPost (m : MachV) (x : W3) (B : Nat) (a : ActV) (W : World) (e : Ending) (w' : World) : Prop := ∃ (m2 : MachV) (y : W3) (ok : Bool), e = .returned (.tuple #[(.agg #[.slice (m2).mem.pA (m2).mem.hs.length (m2).mem.pc, .slice (m2).mem.vA (m2).mem.vs.length (m2).mem.vc, .slice (m2).ln.fA (m2).ln.first.length (m2).ln.fc, .slice (m2).ln.lA (m2).ln.logs.length (m2).ln.lc, .map (m2).ln.asks, .slice (m2).sA (m2).steps.length (m2).sc, .int .i64 (m2).crashes]), (.agg #[.int .i64 (y).v, .int .u32 (y).r, .int .u32 (y).f, .bool ok]), .int .i64 0]) ∧ ((y, ok) = actGot x a ∧ LastW (actWord x a) (B + 1) m2) ∧ m2.R w' ∧ (∀ C, C < W.heap.size → m.off C → m2.off C) ∧ Below W.heap.size W w'
theorem LastW.stepped {x : W3} {B : Nat} {m : MachV} (h : LastW x B m) (gs sc t : Nat) (s : Int) : LastW x B (m.stepped gs sc t s) := by
  obtain ⟨h1, h2, h3, h4, h5, h6, h7⟩ := h
  exact ⟨h1, h2, h3, h4, (List.length_set).trans h5, h6, h7⟩
theorem LastW.more {x : W3} {B B' : Nat} {m : MachV} (h : LastW x B m) (hB : B ≤ B') : LastW x B' m := by
  obtain ⟨h1, h2, h3, h4, h5, ⟨hh, n, g, a1, a2, a3, a4, a5⟩, ⟨lg, b1, b2⟩⟩ := h
  exact ⟨h1, h2, h3, h4, h5, ⟨hh, n, g, a1, a2, a3, a4, by omega⟩, ⟨lg, b1, by omega⟩⟩
theorem stepped_off {m m1 : MachV} {gs sc t C : Nat} {s : Int} (h : MachV.off C (m1.stepped gs sc t s)) : True := trivial
set_option maxHeartbeats 2000000 in
theorem do_rest (m : MachV) (x : W3) (B t : Nat) (ch : Int) (a : ActV) (W : World) (hL : LastW x B m) (ht : t < 3) (hop : a.op = 0) (hR : m.R W) : Calls Try.prog 44 #[(.agg #[.slice (m).mem.pA (m).mem.hs.length (m).mem.pc, .slice (m).mem.vA (m).mem.vs.length (m).mem.vc, .slice (m).ln.fA (m).ln.first.length (m).ln.fc, .slice (m).ln.lA (m).ln.logs.length (m).ln.lc, .map (m).ln.asks, .slice (m).sA (m).steps.length (m).sc, .int .i64 (m).crashes]), .int .i64 ((t : Int) + 1), (.agg #[.int .i64 (a).op, .int .i64 (a).at_, .int .i64 (a).old.v, .int .u32 (a).old.r, .int .u32 (a).old.f, .int .i64 (a).new.v, .int .u32 (a).new.r, .int .u32 (a).new.f]), .int .i64 ch] W (DoPost m x B a W) := by
  obtain ⟨h1, h2, h3, h4, h5, h6, h7⟩ := id hL
  have hs : m.steps[t]? = some (m.steps[t]'(by omega)) := List.getElem?_eq_getElem _
  refine (mach_do_rest m t _ ch a W (fun m1 y ok => m1 = m ∧ y = ⟨0, 0, 0⟩ ∧ ok = true) hR (by omega) (by omega) hs (by omega) hop ⟨rfl, rfl, rfl⟩).mono ?_
  rintro e w' ⟨m1, y, ok, gs, sc', rfl, ⟨rfl, rfl, rfl⟩, hR2, hoff, hb⟩
  refine ⟨_, _, _, rfl, ⟨by unfold actGot; rw [if_pos hop], ?_⟩, hR2, hoff, hb⟩
  have e1 : actWord x a = x := by unfold actWord; rw [if_neg (by omega)]
  rw [e1]
  exact (hL.more (Nat.le_succ _)).stepped _ _ _ _
set_option maxHeartbeats 2000000 in
theorem do_look (m : MachV) (x : W3) (B t : Nat) (ch : Int) (a : ActV) (W : World) (hL : LastW x B m) (hB : B ≤ 1000) (ht : t < 3) (hop : a.op = 5) (hat : a.at_ = 0) (hR : m.R W) : Calls Try.prog 44 #[(.agg #[.slice (m).mem.pA (m).mem.hs.length (m).mem.pc, .slice (m).mem.vA (m).mem.vs.length (m).mem.vc, .slice (m).ln.fA (m).ln.first.length (m).ln.fc, .slice (m).ln.lA (m).ln.logs.length (m).ln.lc, .map (m).ln.asks, .slice (m).sA (m).steps.length (m).sc, .int .i64 (m).crashes]), .int .i64 ((t : Int) + 1), (.agg #[.int .i64 (a).op, .int .i64 (a).at_, .int .i64 (a).old.v, .int .u32 (a).old.r, .int .u32 (a).old.f, .int .i64 (a).new.v, .int .u32 (a).new.r, .int .u32 (a).new.f]), .int .i64 ch] W (DoPost m x B a W) := by
  obtain ⟨h1, h2, h3, h4, h5, ⟨hh, n, g, a1, a2, a3, a4, a5⟩, ⟨lg, b1, b2⟩⟩ := id hL
  have hs : m.steps[t]? = some (m.steps[t]'(by omega)) := List.getElem?_eq_getElem _
  have hv : m.mem.vs[t]? = some (m.mem.vs[t]'(by omega)) := List.getElem?_eq_getElem _
  generalize m.mem.vs[t]'(by omega) = vw at hv
  refine (mach_do_read m t _ ch a W (fun m1 y ok => LastW x (B + 1) m1 ∧ y = x ∧ ok = true) hR (by omega) (by omega) hs (by omega) (.inr (.inr hop)) (by omega) (fun W2 hR2 => ?_)).mono ?_
  · refine (mach_look m t 0 n ch a hh g vw W2 hop hat hR2 a1 a2 a3 hv (by omega) (by omega) (by omega)).mono ?_
    rintro e w' ⟨G, v', rfl, hG, hR3, hb3⟩
    refine ⟨_, g.x, true, rfl, ⟨?_, a4, rfl⟩, ⟨rfl, rfl, rfl, rfl⟩, hR3, (fun C hC hm => MachV.withMem_off hm (MemV.off_with hm.1 (by omega))), hb3⟩
    exact ⟨h1, (List.length_set).trans h2, h3, h4, h5, ⟨hh, n, g, a1, a2, a3, a4, by omega⟩, ⟨lg, b1, by omega⟩⟩
  · rintro e w' ⟨m1, y, ok, gs, sc', rfl, ⟨hL1, rfl, rfl⟩, hR2, hoff, hb⟩
    refine ⟨_, _, _, rfl, ⟨by unfold actGot; rw [if_neg (by omega), if_pos hop], ?_⟩, hR2, hoff, hb⟩
    have e1 : actWord y a = y := by unfold actWord; rw [if_neg (by omega)]
    rw [e1]
    exact hL1.stepped _ _ _ _
set_option maxHeartbeats 2000000 in
theorem do_swap (m : MachV) (x : W3) (B t : Nat) (ch : Int) (a : ActV) (W : World) (hL : LastW x B m) (hB : B ≤ 1000) (ht : t < 3) (hop : a.op = 6) (hat : a.at_ = 0) (hR : m.R W) : Calls Try.prog 44 #[(.agg #[.slice (m).mem.pA (m).mem.hs.length (m).mem.pc, .slice (m).mem.vA (m).mem.vs.length (m).mem.vc, .slice (m).ln.fA (m).ln.first.length (m).ln.fc, .slice (m).ln.lA (m).ln.logs.length (m).ln.lc, .map (m).ln.asks, .slice (m).sA (m).steps.length (m).sc, .int .i64 (m).crashes]), .int .i64 ((t : Int) + 1), (.agg #[.int .i64 (a).op, .int .i64 (a).at_, .int .i64 (a).old.v, .int .u32 (a).old.r, .int .u32 (a).old.f, .int .i64 (a).new.v, .int .u32 (a).new.r, .int .u32 (a).new.f]), .int .i64 ch] W (DoPost m x B a W) := by
  obtain ⟨h1, h2, h3, h4, h5, ⟨hh, n, g, a1, a2, a3, a4, a5⟩, ⟨lg, b1, b2⟩⟩ := id hL
  have hs : m.steps[t]? = some (m.steps[t]'(by omega)) := List.getElem?_eq_getElem _
  have hv : m.mem.vs[t]? = some (m.mem.vs[t]'(by omega)) := List.getElem?_eq_getElem _
  generalize m.mem.vs[t]'(by omega) = vw at hv
  refine (mach_do_write m t _ ch a W (fun m1 y ok => LastW (actWord x a) (B + 1) m1 ∧ y = x ∧ ok = eq3 x a.old) hR (by omega) (by omega) hs (by omega) (.inr (.inr hop)) (by omega) (fun W2 hR2 => ?_)).mono ?_
  · cases he : eq3 x a.old with
    | false =>
      refine (mach_swap_no m t 0 n a hh g vw W2 hop hat hR2 a1 a2 a3 hv (by omega) (by omega) (by omega) (by rw [a4]; exact he)).mono ?_
      rintro e w' ⟨G, v', rfl, hG, hR3, hb3⟩
      refine ⟨_, g.x, false, rfl, ⟨?_, a4, rfl⟩, ⟨rfl, rfl, rfl, rfl⟩, hR3, (fun C hC hm => MachV.withMem_off hm (MemV.off_with hm.1 (by omega))), hb3⟩
      have e1 : actWord x a = x := by unfold actWord; rw [if_pos hop, he]; rfl
      rw [e1]
      exact ⟨h1, (List.length_set).trans h2, h3, h4, h5, ⟨hh, n, g, a1, a2, a3, a4, by omega⟩, ⟨lg, b1, by omega⟩⟩
    | true =>
      refine (mach_swap_yes m t 0 n a hh g vw W2 hop hat hR2 a1 a2 a3 hv (by omega) (by omega) (by omega) lg (by omega) b1 (by omega) (by omega) (by omega) (by rw [a4]; exact he)).mono ?_
      rintro e w' ⟨g9, pc', g7, cap', G, v', g1, lc', g2, cp2, rfl, ⟨q1, q2, q3, q4, q5⟩, hR3, hb3⟩
      refine ⟨_, g.x, true, rfl, ⟨?_, a4, rfl⟩, ⟨rfl, rfl, rfl, rfl⟩, hR3, (fun C hC hm => ⟨MemV.off_swapped hm.1 (by omega) (by omega) (by omega), LinesV.off_stored hm.2.1 (by omega) (by omega), hm.2.2⟩), hb3⟩
      have e1 : actWord x a = a.new := by unfold actWord; rw [if_pos hop, he]; rfl
      rw [e1]
      have hlen : (hh.l ++ [(⟨a.new, (t : Int) + 1, ⟨v', withF (joinF (withF vw.f 0 n) g.a.f) 0 (n + 1)⟩⟩ : MsgV)]).length = n + 2 := by rw [List.length_append, a2]; rfl
      refine ⟨(List.length_set).trans h1, (List.length_set).trans h2, h3, (List.length_set).trans h4, h5, ⟨_, n + 1, ⟨a.new, (t : Int) + 1, ⟨v', withF (joinF (withF vw.f 0 n) g.a.f) 0 (n + 1)⟩⟩, List.getElem?_set_self (by omega), hlen, ?_, rfl, by omega⟩, ⟨_, List.getElem?_set_self (by omega), ?_⟩⟩
      · show (hh.l ++ [_])[n + 1]? = _
        rw [List.getElem?_append_right (by omega), a2, Nat.sub_self]
        rfl
      · show (lg.l ++ [_]).length ≤ B + 1
        rw [List.length_append]
        show lg.l.length + 1 ≤ B + 1
        omega
  · rintro e w' ⟨m1, y, ok, gs, sc', rfl, ⟨hL1, rfl, rfl⟩, hR2, hoff, hb⟩
    refine ⟨_, _, _, rfl, ⟨by unfold actGot; rw [if_neg (by omega), if_neg (by omega)], ?_⟩, hR2, hoff, hb⟩
    exact hL1.stepped _ _ _ _
end Go.Proofs.Ytmjkopejbdipcaa
namespace Go.Proofs.Ytmjkopejbdipcaa
set_option linter.unusedSimpArgs false
set_option linter.unusedVariables false
open Go.RowKit Go.Maps
/-- A task that runs a code of type T with value p: its act, or done. -/
def TS (T : TypeId) (p : Value) (d : Bool) (a : AS) (k : TaskV) : Prop := k.c = .iface T p ∧ ((d = false ∧ k.a = a ∧ k.nx = (.func (Fn.method "Next") #[.iface T p] #[])) ∨ (d = true ∧ k.a = A0 ∧ k.nx = .nilFunc))
theorem TS.ok {T : TypeId} {p : Value} {d : Bool} {a : AS} {k : TaskV} (h : TS T p d a k) : k.ok := by
  obtain ⟨h1, h2⟩ := h
  refine ⟨⟨T, p, h1⟩, ?_⟩
  rcases h2 with ⟨_, _, h2⟩ | ⟨_, _, h2⟩
  · exact .inl ⟨T, p, h2⟩
  · exact .inr h2
def actV (a : AS) : ActV := ⟨a.o, a.l, ⟨a.v, a.r, a.f⟩, ⟨a.v2, a.r2, a.f2⟩⟩
theorem ts_done {T : TypeId} {p : Value} {d : Bool} {a : AS} {k : TaskV} (h : TS T p d a k) (W : World) : Calls Try.prog 42 #[(.agg #[(k).c, (k).nx, .int .i64 ((k).a).o, .int .i64 ((k).a).l, .int .i64 ((k).a).v, .int .u32 ((k).a).r, .int .u32 ((k).a).f, .int .i64 ((k).a).v2, .int .u32 ((k).a).r2, .int .u32 ((k).a).f2, .slice (k).A (k).m (k).cp])] W fun e w' => e = .returned (.bool d) ∧ Below W.heap.size W w' := by
  obtain ⟨c, nx, ka, A, m, cp⟩ := k
  obtain ⟨h1, h2⟩ := h
  simp only at h1 h2
  subst h1
  rcases h2 with ⟨rfl, rfl, rfl⟩ | ⟨rfl, rfl, rfl⟩
  · exact done_no T p (.iface T p) ka A m cp W
  · exact done_yes (.iface T p) A0 A m cp W
theorem ts_give {T : TypeId} {M : Nat} {p p' : Value} {d' : Bool} {a a' : AS} {k : TaskV} (h : TS T p false a k) (x : W3) (ok : Bool) (hT : CodeT T)
    (hmeth : ∀ v w, (method 306 T v "Next").run Try.prog w = .ok (M, v) w) (hent : ∀ args w, (callFunc M args).run Try.prog w = .ok (.enter M args) w) (hm : k.m ≤ 1000)
    (hcall : ∀ W, Calls Try.prog M #[p, (.agg #[.int .i64 (x).v, .int .u32 (x).r, .int .u32 (x).f, .bool ok])] W fun e W' => e = .returned (.tuple #[.iface T p', .agg #[.int .i64 (a').o, .int .i64 (a').l, .int .i64 (a').v, .int .u32 (a').r, .int .u32 (a').f, .int .i64 (a').v2, .int .u32 (a').r2, .int .u32 (a').f2], .bool d']) ∧ Below W.heap.size W W') (W : World) (hg : GotsR W k.A k.m k.cp) :
    Calls Try.prog 46 #[(.agg #[(k).c, (k).nx, .int .i64 ((k).a).o, .int .i64 ((k).a).l, .int .i64 ((k).a).v, .int .u32 ((k).a).r, .int .u32 ((k).a).f, .int .i64 ((k).a).v2, .int .u32 ((k).a).r2, .int .u32 ((k).a).f2, .slice (k).A (k).m (k).cp]), (.agg #[.int .i64 (x).v, .int .u32 (x).r, .int .u32 (x).f, .bool ok])] W fun e w' => ∃ k' : TaskV, e = .returned (.agg #[(k').c, (k').nx, .int .i64 ((k').a).o, .int .i64 ((k').a).l, .int .i64 ((k').a).v, .int .u32 ((k').a).r, .int .u32 ((k').a).f, .int .i64 ((k').a).v2, .int .u32 ((k').a).r2, .int .u32 ((k').a).f2, .slice (k').A (k').m (k').cp]) ∧ (TS T p' d' a' k' ∧ k'.m = k.m + 1) ∧ GotsR w' k'.A k'.m k'.cp ∧ k'.ok ∧ (∀ C, C < W.heap.size → OffC C k.m k.A → OffC C k'.m k'.A) ∧ Below W.heap.size W w' := by
  obtain ⟨c, nx, ka, A, m, cp⟩ := k
  obtain ⟨h1, h2⟩ := h
  simp only at h1 h2 hm hg
  subst h1
  rcases h2 with ⟨-, rfl, rfl⟩ | ⟨h3, _, _⟩
  · cases d' with
    | false =>
      refine (give_go T M p p' (.iface T p) ka a' ⟨x.v, x.r, x.f, ok⟩ A m cp W hT hmeth hent hm hg (fun W _ => hcall W)).mono ?_
      rintro e w' ⟨A', cp', rfl, hg', hnew, hb⟩
      have hts : TS T p' false a' ⟨.iface T p', (.func (Fn.method "Next") #[.iface T p'] #[]), a', A', m + 1, cp'⟩ := ⟨rfl, .inl ⟨rfl, rfl, rfl⟩⟩
      exact ⟨⟨.iface T p', (.func (Fn.method "Next") #[.iface T p'] #[]), a', A', m + 1, cp'⟩, rfl, ⟨hts, rfl⟩, hg', hts.ok, (fun C hC _ _ b o e => by have := hnew b o e; omega), hb⟩
    | true =>
      refine (give_done T M p p' (.iface T p) ka a' ⟨x.v, x.r, x.f, ok⟩ A m cp W hT hmeth hent hm hg (fun W _ => hcall W)).mono ?_
      rintro e w' ⟨A', cp', rfl, hg', hnew, hb⟩
      have hts : TS T p' true a' ⟨.iface T p', .nilFunc, A0, A', m + 1, cp'⟩ := ⟨rfl, .inr ⟨rfl, rfl, rfl⟩⟩
      exact ⟨⟨.iface T p', .nilFunc, A0, A', m + 1, cp'⟩, rfl, ⟨hts, rfl⟩, hg', hts.ok, (fun C hC _ _ b o e => by have := hnew b o e; omega), hb⟩
  · cases h3
end Go.Proofs.Ytmjkopejbdipcaa
namespace Go.Proofs.Ytmjkopejbdipcaa
set_option linter.unusedSimpArgs false
set_option linter.unusedVariables false
open Go.RowKit Go.Maps
/-- A world of three tasks on one word, none stopped. -/
def WI (x : W3) (B : Nat) (V : WorldV) : Prop := LastW x B V.M ∧ V.ts.length = 3 ∧ V.ss = List.replicate 3 false ∧ ∀ k ∈ V.ts, k.m ≤ B
/-- An act that such a world can do. -/
def AS.good (a : AS) : Prop := a.o = 0 ∨ ((a.o = 5 ∨ a.o = 6) ∧ a.l = 0)
theorem ss_at {V : WorldV} {x : W3} {B t : Nat} (h : WI x B V) (ht : t < 3) : V.ss[t]? = some false := by rw [h.2.2.1, List.getElem?_replicate, if_pos ht]
theorem step_done (V : WorldV) (x : W3) (B t : Nat) (ch : Int) (k : TaskV) (T : TypeId) (p : Value) (a : AS) (W : World) (hR : V.R W) (hI : WI x B V) (ht : t < 3) (hk : V.ts[t]? = some k) (hs : TS T p true a k) :
    Calls Try.prog 9 #[(.agg #[.slice ((V).M).mem.pA ((V).M).mem.hs.length ((V).M).mem.pc, .slice ((V).M).mem.vA ((V).M).mem.vs.length ((V).M).mem.vc, .slice ((V).M).ln.fA ((V).M).ln.first.length ((V).M).ln.fc, .slice ((V).M).ln.lA ((V).M).ln.logs.length ((V).M).ln.lc, .map ((V).M).ln.asks, .slice ((V).M).sA ((V).M).steps.length ((V).M).sc, .int .i64 ((V).M).crashes, .slice (V).tA (V).ts.length (V).tc, .slice (V).sA (V).ss.length (V).sc]), .agg #[.int .i64 0, .int .i64 ((t : Int) + 1), .int .i64 ch]] W fun e w' => e = .returned (.tuple #[(.agg #[.slice ((V).M).mem.pA ((V).M).mem.hs.length ((V).M).mem.pc, .slice ((V).M).mem.vA ((V).M).mem.vs.length ((V).M).mem.vc, .slice ((V).M).ln.fA ((V).M).ln.first.length ((V).M).ln.fc, .slice ((V).M).ln.lA ((V).M).ln.logs.length ((V).M).ln.lc, .map ((V).M).ln.asks, .slice ((V).M).sA ((V).M).steps.length ((V).M).sc, .int .i64 ((V).M).crashes, .slice (V).tA (V).ts.length (V).tc, .slice (V).sA (V).ss.length (V).sc]), .bool false]) ∧ V.R w' ∧ Below W.heap.size W w' := by
  have h3 := hI.1.2.1
  have h4 := hI.2.1
  exact world_Step_no V t ch W hR (by omega) (fun W2 hR2 => world_takes V t k true W2 hR2 hk (by omega) (ss_at hI ht) (fun W3 => ts_done hs W3))
theorem mdo_any (m : MachV) (x : W3) (B t : Nat) (ch : Int) (a : AS) (W : World) (hL : LastW x B m) (hB : B ≤ 1000) (ht : t < 3) (ha : a.good) (hR : m.R W) : Calls Try.prog 44 #[.agg #[.slice (m).mem.pA (m).mem.hs.length (m).mem.pc, .slice (m).mem.vA (m).mem.vs.length (m).mem.vc, .slice (m).ln.fA (m).ln.first.length (m).ln.fc, .slice (m).ln.lA (m).ln.logs.length (m).ln.lc, .map (m).ln.asks, .slice (m).sA (m).steps.length (m).sc, .int .i64 (m).crashes], .int .i64 ((t : Int) + 1), .agg #[.int .i64 (a).o, .int .i64 (a).l, .int .i64 (a).v, .int .u32 (a).r, .int .u32 (a).f, .int .i64 (a).v2, .int .u32 (a).r2, .int .u32 (a).f2], .int .i64 ch] W (DoPost m x B (actV a) W) := by
  rcases ha with h | ⟨h | h, hz⟩
  · exact do_rest m x B t ch (actV a) W hL ht h hR
  · exact do_look m x B t ch (actV a) W hL hB ht h hz hR
  · exact do_swap m x B t ch (actV a) W hL hB ht h hz hR
set_option maxHeartbeats 2000000 in
theorem step_on (V : WorldV) (x : W3) (B t : Nat) (ch : Int) (k : TaskV) (T : TypeId) (M : Nat) (p p' : Value) (a a' : AS) (d' : Bool) (W : World) (hR : V.R W) (hI : WI x B V) (hB : B ≤ 900) (ht : t < 3) (hk : V.ts[t]? = some k) (hs : TS T p false a k) (ha : a.good) (hT : CodeT T)
    (hmeth : ∀ v w, (method 306 T v "Next").run Try.prog w = .ok (M, v) w) (hent : ∀ args w, (callFunc M args).run Try.prog w = .ok (.enter M args) w)
    (hcall : ∀ W, Calls Try.prog M #[p, (.agg #[.int .i64 ((actGot x (actV a)).1).v, .int .u32 ((actGot x (actV a)).1).r, .int .u32 ((actGot x (actV a)).1).f, .bool (actGot x (actV a)).2])] W fun e W' => e = .returned (.tuple #[.iface T p', .agg #[.int .i64 (a').o, .int .i64 (a').l, .int .i64 (a').v, .int .u32 (a').r, .int .u32 (a').f, .int .i64 (a').v2, .int .u32 (a').r2, .int .u32 (a').f2], .bool d']) ∧ Below W.heap.size W W') :
    Calls Try.prog 9 #[(.agg #[.slice ((V).M).mem.pA ((V).M).mem.hs.length ((V).M).mem.pc, .slice ((V).M).mem.vA ((V).M).mem.vs.length ((V).M).mem.vc, .slice ((V).M).ln.fA ((V).M).ln.first.length ((V).M).ln.fc, .slice ((V).M).ln.lA ((V).M).ln.logs.length ((V).M).ln.lc, .map ((V).M).ln.asks, .slice ((V).M).sA ((V).M).steps.length ((V).M).sc, .int .i64 ((V).M).crashes, .slice (V).tA (V).ts.length (V).tc, .slice (V).sA (V).ss.length (V).sc]), .agg #[.int .i64 0, .int .i64 ((t : Int) + 1), .int .i64 ch]] W fun e w' => ∃ (V2 : WorldV), e = .returned (.tuple #[(.agg #[.slice ((V2).M).mem.pA ((V2).M).mem.hs.length ((V2).M).mem.pc, .slice ((V2).M).mem.vA ((V2).M).mem.vs.length ((V2).M).mem.vc, .slice ((V2).M).ln.fA ((V2).M).ln.first.length ((V2).M).ln.fc, .slice ((V2).M).ln.lA ((V2).M).ln.logs.length ((V2).M).ln.lc, .map ((V2).M).ln.asks, .slice ((V2).M).sA ((V2).M).steps.length ((V2).M).sc, .int .i64 ((V2).M).crashes, .slice (V2).tA (V2).ts.length (V2).tc, .slice (V2).sA (V2).ss.length (V2).sc]), .bool true]) ∧ (WI (actWord x (actV a)) (B + 1) V2 ∧ ∃ k', V2.ts = V.ts.set t k' ∧ TS T p' d' a' k') ∧ V2.R w' ∧ (∀ C, C < W.heap.size → V.off C → V2.off C) ∧ Below W.heap.size W w' := by
  have h3 := hI.1.2.1
  have h4 := hI.2.1
  have hkm := hI.2.2.2 k (List.mem_of_getElem? hk)
  have hact : ∀ W, Calls Try.prog 43 #[(.agg #[(k).c, (k).nx, .int .i64 ((k).a).o, .int .i64 ((k).a).l, .int .i64 ((k).a).v, .int .u32 ((k).a).r, .int .u32 ((k).a).f, .int .i64 ((k).a).v2, .int .u32 ((k).a).r2, .int .u32 ((k).a).f2, .slice (k).A (k).m (k).cp])] W fun e w' => e = .returned (.tuple #[.agg #[.int .i64 (k.a).o, .int .i64 (k.a).l, .int .i64 (k.a).v, .int .u32 (k.a).r, .int .u32 (k.a).f, .int .i64 (k.a).v2, .int .u32 (k.a).r2, .int .u32 (k.a).f2], .bool true]) ∧ Below W.heap.size W w' := by
    intro W
    obtain ⟨c, nx, ka, A, m, cp⟩ := k
    obtain ⟨q1, q2⟩ := hs
    simp only at q1 q2
    subst q1
    rcases q2 with ⟨-, rfl, rfl⟩ | ⟨q3, _, _⟩
    · exact act_no T p (.iface T p) ka A m cp W
    · cases q3
  have hka : k.a = a := by
    obtain ⟨_, q2⟩ := hs
    rcases q2 with ⟨_, q, _⟩ | ⟨q3, _, _⟩
    · exact q
    · cases q3
  refine world_Step_go V t ch W (fun V2 => WI (actWord x (actV a)) (B + 1) V2 ∧ ∃ k', V2.ts = V.ts.set t k' ∧ TS T p' d' a' k') hR (by omega) (fun W2 hR2 => world_takes V t k false W2 hR2 hk (by omega) (ss_at hI ht) (fun W3 => ts_done hs W3)) (fun W2 hR2 => ?_)
  refine (world_step V t ch k W2 true (fun m2 y ok => (y, ok) = actGot x (actV a) ∧ LastW (actWord x (actV a)) (B + 1) m2) (fun y ok k' => TS T p' d' a' k' ∧ k'.m = k.m + 1) hR2 hk (by omega) hact (fun W3 hR3 => ?_) (fun m2 y ok W3 hE hg => ?_)).mono ?_
  · rw [hka]
    exact mdo_any V.M x B t ch a W3 hI.1 (by omega) ht ha hR3
  · have hy : y = (actGot x (actV a)).1 := congrArg Prod.fst hE.1
    have hok : ok = (actGot x (actV a)).2 := congrArg Prod.snd hE.1
    subst hy hok
    exact ts_give hs _ _ hT hmeth hent (by omega) hcall W3 hg
  · rintro e w' ⟨m2, y, ok, k', gs, tc', rfl, hE, ⟨hG, hG2⟩, hR4, hoff, hb⟩
    refine ⟨_, rfl, ⟨⟨hE.2, (List.length_set).trans h4, hI.2.2.1, fun y hy => ?_⟩, k', rfl, hG⟩, hR4, hoff, hb⟩
    rcases List.mem_or_eq_of_mem_set hy with hy | rfl
    · have := hI.2.2.2 y hy
      omega
    · omega
end Go.Proofs.Ytmjkopejbdipcaa
namespace Go.Proofs.Ytmjkopejbdipcaa
set_option linter.unusedSimpArgs false
set_option linter.unusedVariables false
open Go.RowKit Go.Maps
def c0S : CS := ⟨false, false, false, 0, 0⟩
def pC (n : Int) (c : CS) : Value := (.agg #[.int .i64 0, .int .i64 0, .int .i64 n, .bool (c).b, .bool (c).s, .bool (c).d, .int .i64 (c).t, .int .i64 (c).a])
/-- Wrapped twice, both begun. -/
def pW (n : Int) (c : CS) : Value := .agg #[.iface 95 (.agg #[.iface 104 (pC n c), .int .i64 0, .bool true]), .int .i64 0, .bool true]
/-- Wrapped twice, resting. -/
def pR (n : Int) (l1 l2 : Int) (b2 : Bool) : Value := .agg #[.iface 95 (.agg #[.iface 104 (pC n c0S), .int .i64 l1, .bool false]), .int .i64 l2, .bool b2]
/-- A code's Next, told. -/
def NextIs (T : TypeId) (M : Nat) (p : Value) (g : GS) (p' : Value) (a' : AS) (d' : Bool) : Prop := ∀ W, Calls Try.prog M #[p, (.agg #[.int .i64 (g).v, .int .u32 (g).r, .int .u32 (g).f, .bool (g).k])] W fun e W' => e = .returned (.tuple #[.iface T p', .agg #[.int .i64 (a').o, .int .i64 (a').l, .int .i64 (a').v, .int .u32 (a').r, .int .u32 (a').f, .int .i64 (a').v2, .int .u32 (a').r2, .int .u32 (a').f2], .bool d']) ∧ Below W.heap.size W W'
theorem next_C (n : Int) (c : CS) (g : GS) (h0 : 0 ≤ c.t) (h1 : c.t ≤ 1000000) : NextIs 104 109 (pC n c) g (pC n (nxt n c g).1) (nxt n c g).2.1 (nxt n c g).2.2 := fun W => code_next n c g W h0 h1
theorem next_W (n : Int) (c : CS) (g : GS) (h0 : 0 ≤ c.t) (h1 : c.t ≤ 1000000) : NextIs 95 108 (pW n c) g (pW n (nxt n c g).1) (nxt n c g).2.1 (nxt n c g).2.2 := fun W =>
  wn_any 95 108 _ _ _ _ true g W codeT_wr wr_meth wr_enter (fun W2 => wn_any 104 109 _ _ _ _ true g W2 codeT_code code_meth code_enter (fun W3 => code_next n c g W3 h0 h1))
theorem next_R2 (n l1 l2 : Int) (b2 : Bool) (g : GS) (h0 : 0 < l2) (h1 : l2 ≤ 64) : NextIs 95 108 (pR n l1 l2 b2) g (pR n l1 (l2 - 1) b2) A0 false := fun W => wn_left _ _ l2 b2 g W h0 h1
theorem next_R1 (n l1 : Int) (b2 : Bool) (g : GS) (h0 : 0 < l1) (h1 : l1 ≤ 64) : NextIs 95 108 (pR n l1 0 b2) g (pR n (l1 - 1) 0 true) A0 false := fun W =>
  wn_any 95 108 _ _ _ _ b2 g W codeT_wr wr_meth wr_enter (fun W2 => wn_left _ _ l1 false _ W2 h0 h1)
theorem next_R0 (n : Int) (b2 : Bool) (g : GS) : NextIs 95 108 (pR n 0 0 b2) g (pW n (nxt n c0S G0).1) (nxt n c0S G0).2.1 (nxt n c0S G0).2.2 := fun W =>
  wn_any 95 108 _ _ _ _ b2 g W codeT_wr wr_meth wr_enter (fun W2 => wn_any 104 109 _ _ _ _ false _ W2 codeT_code code_meth code_enter (fun W3 => code_next n c0S G0 W3 (by decide) (by decide)))
/-- What is known of the two worlds' tasks t: k rests are left, n is the number. -/
def Sim (n : Int) (k : Nat) (B : Nat) (ka kb : TaskV) : Prop :=
  (k = 0 ∧ ∃ (c : CS) (a : AS), a.good ∧ 0 ≤ c.t ∧ c.t ≤ B ∧ TS 104 (pC n c) c.d a ka ∧ TS 95 (pW n c) c.d a kb) ∨
  (0 < k ∧ TS 104 (pC n (nxt n c0S G0).1) false (nxt n c0S G0).2.1 ka ∧ ∃ (l1 l2 : Nat) (b2 : Bool), l1 + l2 + 1 = k ∧ l1 ≤ 64 ∧ l2 ≤ 64 ∧ TS 95 (pR n l1 l2 b2) false A0 kb)
theorem nxt_good (n : Int) (c : CS) (g : GS) : (nxt n c g).2.1.good := by
  unfold nxt
  repeat' split
  all_goals first
    | exact .inl rfl
    | exact .inr ⟨.inl rfl, rfl⟩
    | exact .inr ⟨.inr rfl, rfl⟩
theorem nxt_dd (n : Int) (c : CS) (g : GS) : (nxt n c g).2.2 = (nxt n c g).1.d := by
  unfold nxt
  repeat' split
  all_goals first | rfl | (simp only []; assumption) | simp_all
end Go.Proofs.Ytmjkopejbdipcaa
namespace Go.Proofs.Ytmjkopejbdipcaa
set_option linter.unusedSimpArgs false
set_option linter.unusedVariables false
open Go.RowKit Go.Maps
def StepIs (V : WorldV) (t : Nat) (W : World) (P : WorldV → Prop) : Prop := Calls Try.prog 9 #[(.agg #[.slice ((V).M).mem.pA ((V).M).mem.hs.length ((V).M).mem.pc, .slice ((V).M).mem.vA ((V).M).mem.vs.length ((V).M).mem.vc, .slice ((V).M).ln.fA ((V).M).ln.first.length ((V).M).ln.fc, .slice ((V).M).ln.lA ((V).M).ln.logs.length ((V).M).ln.lc, .map ((V).M).ln.asks, .slice ((V).M).sA ((V).M).steps.length ((V).M).sc, .int .i64 ((V).M).crashes, .slice (V).tA (V).ts.length (V).tc, .slice (V).sA (V).ss.length (V).sc]), .agg #[.int .i64 0, .int .i64 ((t : Int) + 1), .int .i64 0]] W fun e w' => ∃ (V2 : WorldV) (ok : Bool), e = .returned (.tuple #[(.agg #[.slice ((V2).M).mem.pA ((V2).M).mem.hs.length ((V2).M).mem.pc, .slice ((V2).M).mem.vA ((V2).M).mem.vs.length ((V2).M).mem.vc, .slice ((V2).M).ln.fA ((V2).M).ln.first.length ((V2).M).ln.fc, .slice ((V2).M).ln.lA ((V2).M).ln.logs.length ((V2).M).ln.lc, .map ((V2).M).ln.asks, .slice ((V2).M).sA ((V2).M).steps.length ((V2).M).sc, .int .i64 ((V2).M).crashes, .slice (V2).tA (V2).ts.length (V2).tc, .slice (V2).sA (V2).ss.length (V2).sc]), .bool ok]) ∧ P V2 ∧ V2.R w' ∧ (∀ C, C < W.heap.size → V.off C → V2.off C) ∧ Below W.heap.size W w'
theorem step_is_done {V : WorldV} {x : W3} {B t : Nat} {k : TaskV} {T : TypeId} {p : Value} {a : AS} {W : World} {P : WorldV → Prop} (hR : V.R W) (hI : WI x B V) (ht : t < 3) (hk : V.ts[t]? = some k) (hs : TS T p true a k) (hP : P V) : StepIs V t W P := by
  refine (step_done V x B t 0 k T p a W hR hI ht hk hs).mono ?_
  rintro e w' ⟨rfl, hR2, hb⟩
  exact ⟨V, false, rfl, hP, hR2, fun _ _ h => h, hb⟩
def gotG (x : W3) (a : AS) : GS := ⟨(actGot x (actV a)).1.v, (actGot x (actV a)).1.r, (actGot x (actV a)).1.f, (actGot x (actV a)).2⟩
theorem step_is_on {V : WorldV} {x : W3} {B t : Nat} {k : TaskV} {T : TypeId} {M : Nat} {p p' : Value} {a a' : AS} {d' : Bool} {W : World} {P : WorldV → Prop} (hR : V.R W) (hI : WI x B V) (hB : B ≤ 900) (ht : t < 3) (hk : V.ts[t]? = some k) (hs : TS T p false a k) (ha : a.good) (hT : CodeT T)
    (hmeth : ∀ v w, (method 306 T v "Next").run Try.prog w = .ok (M, v) w) (hent : ∀ args w, (callFunc M args).run Try.prog w = .ok (.enter M args) w)
    (hcall : NextIs T M p (gotG x a) p' a' d') (hP : ∀ V2 k', WI (actWord x (actV a)) (B + 1) V2 → V2.ts = V.ts.set t k' → TS T p' d' a' k' → P V2) : StepIs V t W P := by
  refine (step_on V x B t 0 k T M p p' a a' d' W hR hI hB ht hk hs ha hT hmeth hent hcall).mono ?_
  rintro e w' ⟨V2, rfl, ⟨hW, k', h1, h2⟩, hR2, hoff, hb⟩
  exact ⟨V2, true, rfl, hP V2 k' hW h1 h2, hR2, hoff, hb⟩
/-- The worlds agree: the word, and each task. -/
def Two (n : Nat → Int) (left : Nat → Nat) (x : W3) (B : Nat) (Va Vb : WorldV) : Prop := WI x B Va ∧ WI x B Vb ∧ ∀ t, t < 3 → ∃ ka kb, Va.ts[t]? = some ka ∧ Vb.ts[t]? = some kb ∧ Sim (n t) (left t) B ka kb
theorem WI.more {x : W3} {B B' : Nat} {V : WorldV} (h : WI x B V) (hB : B ≤ B') : WI x B' V := ⟨h.1.more hB, h.2.1, h.2.2.1, fun k hk => Nat.le_trans (h.2.2.2 k hk) hB⟩
theorem Sim.more {n : Int} {k B B' : Nat} {ka kb : TaskV} (h : Sim n k B ka kb) (hB : B ≤ B') : Sim n k B' ka kb := by
  rcases h with ⟨h1, c, a, h2, h3, h4, h5, h6⟩ | h
  · exact .inl ⟨h1, c, a, h2, h3, by omega, h5, h6⟩
  · exact .inr h
/-- The second world has stepped thread t, the first has not. -/
def Half (n : Nat → Int) (left : Nat → Nat) (t : Nat) (x : W3) (B : Nat) (Va Vb : WorldV) : Prop := WI x B Va ∧ (∀ j, j < 3 → j ≠ t → ∃ ka kb, Va.ts[j]? = some ka ∧ Vb.ts[j]? = some kb ∧ Sim (n j) (left j) B ka kb) ∧
  ∃ (ka kb : TaskV) (c : CS) (a : AS), Va.ts[t]? = some ka ∧ Vb.ts[t]? = some kb ∧ a.good ∧ 0 ≤ c.t ∧ c.t ≤ B ∧ TS 104 (pC (n t) c) c.d a ka ∧
    ((c.d = true ∧ WI x B Vb ∧ TS 95 (pW (n t) c) true a kb) ∨ (c.d = false ∧ WI (actWord x (actV a)) (B + 1) Vb ∧ TS 95 (pW (n t) (nxt (n t) c (gotG x a)).1) (nxt (n t) c (gotG x a)).1.d (nxt (n t) c (gotG x a)).2.1 kb))
theorem set_at {ts : List TaskV} {t j : Nat} {k k' : TaskV} (hj : ts[j]? = some k) (hne : j ≠ t) : (ts.set t k')[j]? = some k := by rw [List.getElem?_set_ne (fun e => hne e.symm)]; exact hj
theorem two_rest {n : Nat → Int} {left : Nat → Nat} {x : W3} {B t : Nat} {Va Vb : WorldV} {W : World} (h : Two n left x B Va Vb) (hB : B ≤ 900) (ht : t < 3) (hl : 0 < left t) (hR : Vb.R W) : StepIs Vb t W (fun V2 => Two n (fun j => if j = t then left t - 1 else left j) x (B + 1) Va V2) := by
  obtain ⟨ha, hb, hall⟩ := h
  obtain ⟨ka, kb, hka, hkb, hs⟩ := hall t ht
  rcases hs with ⟨h0, _⟩ | ⟨_, hsa, l1, l2, b2, hsum, hl1, hl2, hsb⟩
  · omega
  have hx : actWord x (actV A0) = x := rfl
  have htb : t < Vb.ts.length := by rw [hb.2.1]; exact ht
  have fin : ∀ (p' : Value) (a' : AS) (d' : Bool) (V2 : WorldV) (k' : TaskV), WI (actWord x (actV A0)) (B + 1) V2 → V2.ts = Vb.ts.set t k' → TS 95 p' d' a' k' → Sim (n t) (left t - 1) (B + 1) ka k' → Two n (fun j => if j = t then left t - 1 else left j) x (B + 1) Va V2 := by
    intro p' a' d' V2 k' hW hts hk' hsim
    refine ⟨ha.more (Nat.le_succ _), hx ▸ hW, fun j hj => ?_⟩
    by_cases e : j = t
    · subst e
      refine ⟨ka, k', hka, by rw [hts, List.getElem?_set_self htb], ?_⟩
      simp only [if_true]
      exact hsim
    · obtain ⟨ka', kb', q1, q2, q3⟩ := hall j hj
      refine ⟨ka', kb', q1, by rw [hts]; exact set_at q2 e, ?_⟩
      simp only [if_neg e]
      exact q3.more (Nat.le_succ _)
  by_cases z2 : l2 = 0
  · subst z2
    by_cases z1 : l1 = 0
    · subst z1
      refine step_is_on hR hb hB ht hkb hsb (.inl rfl) codeT_wr wr_meth wr_enter (next_R0 (n t) b2 _) (fun V2 k' hW hts hk' => fin _ _ _ V2 k' hW hts hk' (.inl ⟨by omega, (nxt (n t) c0S G0).1, (nxt (n t) c0S G0).2.1, nxt_good _ _ _, ?_, ?_, ?_, ?_⟩))
      · exact (nxt_t (n t) c0S G0 0 (Int.le_refl _) (Int.le_refl _)).1
      · have := (nxt_t (n t) c0S G0 0 (Int.le_refl _) (Int.le_refl _)).2
        omega
      · exact hsa
      · rw [← nxt_dd]; exact hk'
    · refine step_is_on hR hb hB ht hkb hsb (.inl rfl) codeT_wr wr_meth wr_enter (next_R1 (n t) l1 b2 _ (by omega) (by omega)) (fun V2 k' hW hts hk' => fin _ _ _ V2 k' hW hts hk' (.inr ⟨by omega, hsa, l1 - 1, 0, true, by omega, by omega, by omega, ?_⟩))
      rw [show ((l1 - 1 : Nat) : Int) = (l1 : Int) - 1 by omega]
      exact hk'
  · refine step_is_on hR hb hB ht hkb hsb (.inl rfl) codeT_wr wr_meth wr_enter (next_R2 (n t) l1 l2 b2 _ (by omega) (by omega)) (fun V2 k' hW hts hk' => fin _ _ _ V2 k' hW hts hk' (.inr ⟨by omega, hsa, l1, l2 - 1, b2, by omega, by omega, by omega, ?_⟩))
    rw [show ((l2 - 1 : Nat) : Int) = (l2 : Int) - 1 by omega]
    exact hk'
theorem two_second {n : Nat → Int} {left : Nat → Nat} {x : W3} {B t : Nat} {Va Vb : WorldV} {W : World} (h : Two n left x B Va Vb) (hB : B ≤ 900) (ht : t < 3) (hl : left t = 0) (hR : Vb.R W) : StepIs Vb t W (fun V2 => Half n left t x B Va V2) := by
  obtain ⟨ha, hb, hall⟩ := h
  obtain ⟨ka, kb, hka, hkb, hs⟩ := hall t ht
  rcases hs with ⟨_, c, a, hg, hc0, hc1, hsa, hsb⟩ | ⟨h0, _⟩
  rotate_left
  · omega
  have htb : t < Vb.ts.length := by rw [hb.2.1]; exact ht
  cases hd : c.d with
  | true =>
    rw [hd] at hsb
    exact step_is_done hR hb ht hkb hsb ⟨ha, fun j hj hne => hall j hj, ka, kb, c, a, hka, hkb, hg, hc0, hc1, hsa, .inl ⟨hd, hb, hsb⟩⟩
  | false =>
    rw [hd] at hsb
    refine step_is_on hR hb hB ht hkb hsb hg codeT_wr wr_meth wr_enter (next_W (n t) c _ hc0 (by omega)) (fun V2 k' hW hts hk' => ⟨ha, fun j hj hne => ?_, ka, k', c, a, hka, by rw [hts, List.getElem?_set_self htb], hg, hc0, hc1, hsa, .inr ⟨hd, hW, ?_⟩⟩)
    · obtain ⟨ka', kb', q1, q2, q3⟩ := hall j hj
      exact ⟨ka', kb', q1, by rw [hts]; exact set_at q2 hne, q3⟩
    · rw [← nxt_dd]; exact hk'
theorem two_first {n : Nat → Int} {left : Nat → Nat} {x : W3} {B t : Nat} {Va Vb : WorldV} {W : World} (h : Half n left t x B Va Vb) (hB : B ≤ 900) (ht : t < 3) (hl : left t = 0) (hR : Va.R W) : StepIs Va t W (fun V2 => ∃ x', Two n left x' (B + 1) V2 Vb) := by
  obtain ⟨ha, hall, ka, kb, c, a, hka, hkb, hg, hc0, hc1, hsa, hor⟩ := h
  have hta : t < Va.ts.length := by rw [ha.2.1]; exact ht
  rcases hor with ⟨hd, hb, hsb⟩ | ⟨hd, hb, hsb⟩
  · rw [hd] at hsa
    refine step_is_done hR ha ht hka hsa ⟨x, ha.more (Nat.le_succ _), hb.more (Nat.le_succ _), fun j hj => ?_⟩
    by_cases e : j = t
    · subst e
      exact ⟨ka, kb, hka, hkb, .inl ⟨hl, c, a, hg, hc0, by omega, by rw [hd]; exact hsa, by rw [hd]; exact hsb⟩⟩
    · obtain ⟨ka', kb', q1, q2, q3⟩ := hall j hj e
      exact ⟨ka', kb', q1, q2, q3.more (Nat.le_succ _)⟩
  · rw [hd] at hsa
    refine step_is_on hR ha hB ht hka hsa hg codeT_code code_meth code_enter (next_C (n t) c _ hc0 (by omega)) (fun V2 k' hW hts hk' => ⟨actWord x (actV a), hW, hb, fun j hj => ?_⟩)
    by_cases e : j = t
    · subst e
      have hq := nxt_t (n j) c (gotG x a) B hc0 hc1
      exact ⟨k', kb, by rw [hts, List.getElem?_set_self hta], hkb, .inl ⟨hl, (nxt (n j) c (gotG x a)).1, (nxt (n j) c (gotG x a)).2.1, nxt_good _ _ _, hq.1, by omega, by rw [← nxt_dd]; exact hk', hsb⟩⟩
    · obtain ⟨ka', kb', q1, q2, q3⟩ := hall j hj e
      exact ⟨ka', kb', by rw [hts]; exact set_at q1 e, q2, q3.more (Nat.le_succ _)⟩
end Go.Proofs.Ytmjkopejbdipcaa
namespace Go.Proofs.Ytmjkopejbdipcaa
set_option linter.unusedSimpArgs false
set_option linter.unusedVariables false
open Go.RowKit Go.Maps
def Fresh (k : TaskV) : Prop := k.ok ∧ k.A = none ∧ k.m = 0 ∧ k.cp = 0
def StartIs (c : Value) (k : TaskV) : Prop := ∀ W, Calls Try.prog 23 #[c] W fun e w' => e = .returned (.agg #[(k).c, (k).nx, .int .i64 ((k).a).o, .int .i64 ((k).a).l, .int .i64 ((k).a).v, .int .u32 ((k).a).r, .int .u32 ((k).a).f, .int .i64 ((k).a).v2, .int .u32 ((k).a).r2, .int .u32 ((k).a).f2, .slice (k).A (k).m (k).cp]) ∧ Below W.heap.size W w'
theorem start_any {T : TypeId} {M : Nat} {p p' : Value} {a' : AS} {d' : Bool} (hT : CodeT T) (hmeth : ∀ v w, (method 306 T v "Next").run Try.prog w = .ok (M, v) w) (hent : ∀ args w, (callFunc M args).run Try.prog w = .ok (.enter M args) w) (h : NextIs T M p G0 p' a' d') : ∃ k, TS T p' d' a' k ∧ Fresh k ∧ StartIs (.iface T p) k := by
  cases d' with
  | false =>
    have hts : TS T p' false a' ⟨.iface T p', (.func (Fn.method "Next") #[.iface T p'] #[]), a', none, 0, 0⟩ := ⟨rfl, .inl ⟨rfl, rfl, rfl⟩⟩
    exact ⟨_, hts, ⟨hts.ok, rfl, rfl, rfl⟩, fun W => start_go T M p p' a' W hT hmeth hent (fun W2 _ => h W2)⟩
  | true =>
    have hts : TS T p' true a' ⟨.iface T p', .nilFunc, A0, none, 0, 0⟩ := ⟨rfl, .inr ⟨rfl, rfl, rfl⟩⟩
    exact ⟨_, hts, ⟨hts.ok, rfl, rfl, rfl⟩, fun W => start_done T M p p' a' W hT hmeth hent (fun W2 _ => h W2)⟩
theorem nxt_c0 (n : Int) : (nxt n c0S G0).2.2 = false := rfl
theorem starts (n : Int) (r1 r2 : Nat) (h1 : r1 ≤ 64) (h2 : r2 ≤ 64) : ∃ ka kb, Fresh ka ∧ Fresh kb ∧ StartIs (.iface 104 (pC n c0S)) ka ∧ StartIs (.iface 95 (pR n r1 r2 false)) kb ∧ Sim n (r1 + r2) 0 ka kb := by
  obtain ⟨ka, hka, hfa, hsa⟩ := start_any codeT_code code_meth code_enter (next_C n c0S G0 (by decide) (by decide))
  rw [nxt_c0] at hka
  by_cases z2 : r2 = 0
  · subst z2
    by_cases z1 : r1 = 0
    · subst z1
      obtain ⟨kb, hkb, hfb, hsb⟩ := start_any codeT_wr wr_meth wr_enter (next_R0 n false G0)
      exact ⟨ka, kb, hfa, hfb, hsa, hsb, .inl ⟨rfl, (nxt n c0S G0).1, (nxt n c0S G0).2.1, nxt_good _ _ _, Int.le_refl _, Int.le_refl _, hka, hkb⟩⟩
    · obtain ⟨kb, hkb, hfb, hsb⟩ := start_any codeT_wr wr_meth wr_enter (next_R1 n r1 false G0 (by omega) (by omega))
      refine ⟨ka, kb, hfa, hfb, hsa, hsb, .inr ⟨by omega, hka, r1 - 1, 0, true, by omega, by omega, by omega, ?_⟩⟩
      rw [show ((r1 - 1 : Nat) : Int) = (r1 : Int) - 1 by omega]
      exact hkb
  · obtain ⟨kb, hkb, hfb, hsb⟩ := start_any codeT_wr wr_meth wr_enter (next_R2 n r1 r2 false G0 (by omega) (by omega))
    refine ⟨ka, kb, hfa, hfb, hsa, hsb, .inr ⟨by omega, hka, r1, r2 - 1, false, by omega, by omega, by omega, ?_⟩⟩
    rw [show ((r2 - 1 : Nat) : Int) = (r2 : Int) - 1 by omega]
    exact hkb
/-- A machine as New makes it, for three threads and one word of zeros. -/
theorem last_fresh {M : MachV} (h : M.fresh 3 [z3]) : LastW z3 0 M := by
  obtain ⟨h1, h2, h3, h4, h5, h6, h7⟩ := h
  have hl : M.mem.hs.length = 1 := by have := congrArg List.length h1; simpa using this
  obtain ⟨hh, e⟩ := List.length_eq_one_iff.1 hl
  rw [e] at h1
  simp only [List.map_cons, List.map_nil, List.cons.injEq, and_true] at h1
  refine ⟨hl, by rw [h2]; rfl, by rw [h3]; rfl, by rw [h4]; rfl, by rw [h6]; rfl, ⟨hh, 0, msg0 z3, by rw [e]; rfl, by rw [h1]; rfl, by rw [h1]; rfl, rfl, Nat.le_refl _⟩, ⟨log0, by rw [h4]; rfl, Nat.le_refl _⟩⟩
theorem two_made {n : Nat → Int} {left : Nat → Nat} {M : MachV} {Va Vb : WorldV} {ka kb : Nat → TaskV} (hf : M.fresh 3 [z3]) (ha : Va.M = M) (hb : Vb.M = M) (hta : Va.ts = [ka 0, ka 1, ka 2]) (htb : Vb.ts = [kb 0, kb 1, kb 2]) (hsa : Va.ss = List.replicate 3 false) (hsb : Vb.ss = List.replicate 3 false)
    (hfa : ∀ t, t < 3 → Fresh (ka t)) (hfb : ∀ t, t < 3 → Fresh (kb t)) (hs : ∀ t, t < 3 → Sim (n t) (left t) 0 (ka t) (kb t)) : Two n left z3 0 Va Vb := by
  refine ⟨⟨by rw [ha]; exact last_fresh hf, by rw [hta]; rfl, hsa, fun k hk => ?_⟩, ⟨by rw [hb]; exact last_fresh hf, by rw [htb]; rfl, hsb, fun k hk => ?_⟩, fun t ht => ?_⟩
  · rw [hta] at hk
    simp only [List.mem_cons, List.not_mem_nil, or_false] at hk
    rcases hk with rfl | rfl | rfl
    · exact Nat.le_of_eq (hfa 0 (by omega)).2.2.1
    · exact Nat.le_of_eq (hfa 1 (by omega)).2.2.1
    · exact Nat.le_of_eq (hfa 2 (by omega)).2.2.1
  · rw [htb] at hk
    simp only [List.mem_cons, List.not_mem_nil, or_false] at hk
    rcases hk with rfl | rfl | rfl
    · exact Nat.le_of_eq (hfb 0 (by omega)).2.2.1
    · exact Nat.le_of_eq (hfb 1 (by omega)).2.2.1
    · exact Nat.le_of_eq (hfb 2 (by omega)).2.2.1
  · have h3 : t = 0 ∨ t = 1 ∨ t = 2 := by omega
    rcases h3 with rfl | rfl | rfl
    · exact ⟨ka 0, kb 0, by rw [hta]; rfl, by rw [htb]; rfl, hs 0 ht⟩
    · exact ⟨ka 1, kb 1, by rw [hta]; rfl, by rw [htb]; rfl, hs 1 ht⟩
    · exact ⟨ka 2, kb 2, by rw [hta]; rfl, by rw [htb]; rfl, hs 2 ht⟩
/-- What the two worlds' codes answer at the end. -/
theorem two_word {n : Nat → Int} {left : Nat → Nat} {x : W3} {B : Nat} {Va Vb : WorldV} (h : Two n left x B Va Vb) : LastW x B Va.M ∧ LastW x B Vb.M := ⟨h.1.1, h.2.1.1⟩
end Go.Proofs.Ytmjkopejbdipcaa
namespace Go.Proofs.Ytmjkopejbdipcaa
set_option linter.unusedSimpArgs false
set_option linter.unusedVariables false
open Go.RowKit Go.Maps
theorem inner_two (q : Value) (l1 l2 : Int) (b1 b2 : Bool) (w : World) :
    Calls Try.prog 13 #[.iface 95 (.agg #[.iface 95 (.agg #[.iface 104 q, .int .i64 l1, .bool b1]), .int .i64 l2, .bool b2])] w fun e w' => e = .returned (.iface 104 q) ∧ Below w.heap.size w w' := by
  have h := ta_wr
  have h2 := ta_wr_no
  go_enter Try.func13, Try.ntmps13
  go_wp2_with fail
  refine wp_loop_rounds 3 ?_
  rw [rounds_succ]
  go_wp2_with fail
  rw [rounds_succ]
  go_wp2_with fail
  rw [rounds_succ]
  go_wp2
  go_ret
  exact ⟨rfl, (by repeat' (first | with_reducible exact Below.refl _ _ | with_reducible assumption | with_reducible refine Below.alloc ?_ ?_ _ | with_reducible refine Below.setCell ?_ ?_ _ | with_reducible refine Below.drew ?_ | with_reducible refine below_drewN ?_ _ | with_reducible refine Below.trans ?_ (Below.mono (by with_reducible assumption) ?_) | omega | (simp <;> omega)))⟩
def AnswerIs (c : Value) (v : Int) (d : Bool) : Prop := ∀ W, Calls Try.prog 11 #[c] W fun e w' => e = .returned (.tuple #[.int .i64 v, .bool d]) ∧ Below W.heap.size W w'
def InnerIs (c q : Value) : Prop := ∀ W, Calls Try.prog 13 #[c] W fun e w' => e = .returned q ∧ Below W.heap.size W w'
theorem answer_C (n : Int) (c : CS) : AnswerIs (.iface 104 (pC n c)) (if c.d then c.a else 0) c.d := fun W => answer_any n c.t c.a c.b c.s c.d W
theorem sim_answer {n : Int} {k B : Nat} {ka kb : TaskV} (h : Sim n k B ka kb) : ∃ (v : Int) (d : Bool) (q : Value), AnswerIs ka.c v d ∧ InnerIs kb.c q ∧ AnswerIs q v d := by
  rcases h with ⟨_, c, a, _, _, _, hsa, hsb⟩ | ⟨_, hsa, l1, l2, b2, _, _, _, hsb⟩
  · refine ⟨if c.d then c.a else 0, c.d, .iface 104 (pC n c), by rw [hsa.1]; exact answer_C n c, ?_, answer_C n c⟩
    rw [hsb.1]
    exact fun W => inner_two _ _ _ _ _ W
  · refine ⟨0, false, .iface 104 (pC n c0S), by rw [hsa.1]; exact answer_C n _, ?_, answer_C n c0S⟩
    rw [hsb.1]
    exact fun W => inner_two _ _ _ _ _ W
theorem word_last {m : MachV} {x : W3} {B : Nat} (hL : LastW x B m) (hB : B ≤ 1000) (W : World) (hR : m.R W) : Calls Try.prog 10 #[(.agg #[.slice (m).mem.pA (m).mem.hs.length (m).mem.pc, .slice (m).mem.vA (m).mem.vs.length (m).mem.vc, .slice (m).ln.fA (m).ln.first.length (m).ln.fc, .slice (m).ln.lA (m).ln.logs.length (m).ln.lc, .map (m).ln.asks, .slice (m).sA (m).steps.length (m).sc, .int .i64 (m).crashes]), .int .i64 0] W fun e w' => e = .returned (.tuple #[.agg #[.int .i64 x.v, .int .u32 x.r, .int .u32 x.f], .bool true]) ∧ Below W.heap.size W w' := by
  obtain ⟨_, _, _, _, _, ⟨h, n, g, h1, h2, h3, h4, h5⟩, _⟩ := hL
  have q := mach_word m 0 n h g W hR h1 h2 (by omega) h3
  rw [h4] at q
  exact q
theorem eq3_self (x : W3) : eq3 x x = true := by simp [eq3]
end Go.Proofs.Ytmjkopejbdipcaa
