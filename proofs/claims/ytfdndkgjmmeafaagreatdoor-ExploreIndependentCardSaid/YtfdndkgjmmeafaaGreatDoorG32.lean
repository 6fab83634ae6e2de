/- Package task: the world; dead, stopped, takes. -/
import Derived.Test.YtfdndkgjmmeafaaGreatDoorG14
import Derived.Test.YtfdndkgjmmeafaaGreatDoorG30
namespace Go.Proofs.YtfdndkgjmmeafaaGreatDoor
set_option linter.unusedSimpArgs false
set_option linter.unusedVariables false
open Go.RowKit Go.Maps
/-- A task: its code, what runs it on, its act, the results it was given. -/
structure TaskV where
  c : Value
  nx : Value
  a : AS
  A : Option Addr
  m : Nat
  cp : Nat
  l : List GS
def taskc (k : TaskV) : List Value := [k.c, k.nx, .int .i64 (k.a).o, .int .i64 (k.a).l, .int .i64 (k.a).v, .int .u32 (k.a).r, .int .u32 (k.a).f, .int .i64 (k.a).v2, .int .u32 (k.a).r2, .int .u32 (k.a).f2, .slice k.A k.m k.cp]
theorem taskc_len (k : TaskV) : (taskc k).length = 11 := rfl
/-- What a task's code and what runs it on may be. -/
def TaskV.ok (k : TaskV) : Prop := (∃ T p, k.c = .iface T p) ∧ ((∃ T p, k.nx = .func (Fn.method "Next") #[.iface T p] #[]) ∨ k.nx = .nilFunc)
structure WorldV where
  M : MachV
  tA : Option Addr
  tc : Nat
  ts : List TaskV
  sA : Option Addr
  sc : Nat
  ss : List Bool
def WorldV.R (w : World) (V : WorldV) : Prop := V.M.R w ∧ (V.ts.length ≤ V.tc ∧ (V.tA = none → V.ts.length = 0) ∧ Rd w w.heap.size 11 V.tA V.ts.length (V.ts.flatMap taskc) ∧ ∀ k ∈ V.ts, GotsR w k.A k.m k.cp (k.l.flatMap gotc) ∧ k.ok) ∧ (V.ss.length ≤ V.sc ∧ (V.sA = none → V.ss.length = 0) ∧ Rd w w.heap.size 1 V.sA V.ss.length (V.ss.map Value.bool))
theorem WorldV.R.below {w w' : World} {V : WorldV} (h : V.R w) (hb : Below w.heap.size w w') : V.R w' :=
  ⟨h.1.below hb, ⟨h.2.1.1, h.2.1.2.1, (h.2.1.2.2.1.below hb).more hb.size, fun k hk => ⟨(h.2.1.2.2.2 k hk).1.below hb, (h.2.1.2.2.2 k hk).2⟩⟩, h.2.2.1, h.2.2.2.1, (h.2.2.2.2.below hb).more hb.size⟩
def WorldV.off (C : Nat) (V : WorldV) : Prop := V.M.off C ∧ OffC C V.ts.length V.tA ∧ OffC C V.ss.length V.sA ∧ ∀ k ∈ V.ts, OffC C k.m k.A
theorem WorldV.off_new {w : World} {V : WorldV} {C : Nat} (h : V.R w) (hC : w.heap.size ≤ C) : V.off C := ⟨MachV.off_new h.1 hC, OffC.new h.2.1.2.2.1 hC, OffC.new h.2.2.2.2 hC, fun k hk => by
  obtain ⟨_, _, hr⟩ := (h.2.1.2.2.2 k hk).1
  exact OffC.new hr hC⟩
theorem GotsR.set' {w : World} {A : Option Addr} {m cp C o : Nat} {xs : List Value} (h : GotsR w A m cp xs) (hoff : OffC C m A) (x : Value) : GotsR (w.setCell ⟨C, o, none⟩ x) A m cp xs := by
  obtain ⟨h1, h2, h3⟩ := h
  refine ⟨h1, h2, ?_⟩
  rw [show (w.setCell ⟨C, o, none⟩ x).heap.size = w.heap.size by simp]
  exact Rd.set_off h3 hoff x
theorem WorldV.R.set {w : World} {V : WorldV} {C o : Nat} (h : V.R w) (hoff : V.off C) (hc : HasC ⟨C, o, none⟩ w) (x : Value) : V.R (w.setCell ⟨C, o, none⟩ x) := by
  have es : (w.setCell ⟨C, o, none⟩ x).heap.size = w.heap.size := by simp
  refine ⟨h.1.set hoff.1 hc x, ⟨h.2.1.1, h.2.1.2.1, ?_, fun k hk => ⟨(h.2.1.2.2.2 k hk).1.set' (hoff.2.2.2 k hk) x, (h.2.1.2.2.2 k hk).2⟩⟩, h.2.2.1, h.2.2.2.1, ?_⟩
  · rw [es]; exact Rd.set_off h.2.1.2.2.1 hoff.2.1 x
  · rw [es]; exact Rd.set_off h.2.2.2.2 hoff.2.2.1 x
theorem WorldV.R.drew {w : World} {V : WorldV} (h : V.R w) : V.R w.drew := h.below (Below.drew (Below.refl _ _))
theorem world_dead (V : WorldV) (w : World) (h : 0 < V.M.mem.vs.length) : Calls Tryz.prog 76 #[(.agg #[.slice ((V).M).mem.pA ((V).M).mem.hs.length ((V).M).mem.pc, .slice ((V).M).mem.vA ((V).M).mem.vs.length ((V).M).mem.vc, .slice ((V).M).ln.fA ((V).M).ln.first.length ((V).M).ln.fc, .slice ((V).M).ln.lA ((V).M).ln.logs.length ((V).M).ln.lc, .map ((V).M).ln.asks, .slice ((V).M).sA ((V).M).steps.length ((V).M).sc, .int .i64 ((V).M).crashes, .slice (V).tA (V).ts.length (V).tc, .slice (V).sA (V).ss.length (V).sc])] w fun e w' => e = .returned (.bool false) ∧ Below w.heap.size w w' := by
  have hsz := fun W => mach_size V.M W
  have Hsz := hide hsz
  have hn : ¬ ((V.M.mem.vs.length : Int) = 0) := by omega
  have hn2 : ((V.M.mem.vs.length : Int) == 0) = false := by simpa using hn
  clear hsz
  go_enter Tryz.func76, Tryz.ntmps76
  go_wp2_with (first | (go_at_call 22; refine (Hsz.out _).mono ?_; rintro e w1 ⟨rfl, hb1⟩; obtain ⟨hcc1, hff1⟩ := bcell hb1; have hs1 := hb1.size; (try simp at hs1)))
  go_ret
  exact ⟨rfl, ab0⟩
set_option maxRecDepth 100000 in
theorem world_stopped (V : WorldV) (t : Nat) (b : Bool) (w : World) (hR : V.R w) (hb : V.ss[t]? = some b) : Calls Tryz.prog 107 #[(.agg #[.slice ((V).M).mem.pA ((V).M).mem.hs.length ((V).M).mem.pc, .slice ((V).M).mem.vA ((V).M).mem.vs.length ((V).M).mem.vc, .slice ((V).M).ln.fA ((V).M).ln.first.length ((V).M).ln.fc, .slice ((V).M).ln.lA ((V).M).ln.logs.length ((V).M).ln.lc, .map ((V).M).ln.asks, .slice ((V).M).sA ((V).M).steps.length ((V).M).sc, .int .i64 ((V).M).crashes, .slice (V).tA (V).ts.length (V).tc, .slice (V).sA (V).ss.length (V).sc]), .int .i64 t] w fun e w' => e = .returned (.bool b) ∧ Below w.heap.size w w' := by
  have ht : t < V.ss.length := (List.getElem?_eq_some_iff.1 hb).1
  obtain ⟨bl, off, e, hbl, c0⟩ := Rd.one hR.2.2.2.2 ht hb
  obtain ⟨M, tA, tc, ts, sA, sc, ss⟩ := V
  simp only at e ht
  subst e
  have h0 : (0 : Int) ≤ (t : Int) := by omega
  have h1 : (t : Int) < (ss.length : Int) := by omega
  have hz : bl < w.heap.size + 1 := by omega
  clear hR hb
  go_enter Tryz.func107, Tryz.ntmps107
  go_wp2_with fail
  go_ret
  exact ⟨rfl, ab0⟩
set_option maxHeartbeats 4000000 in
set_option maxRecDepth 100000 in
theorem world_takes (V : WorldV) (t : Nat) (k : TaskV) (d : Bool) (w : World) (hR : V.R w) (hk : V.ts[t]? = some k) (hn : V.ts.length ≤ 1000) (hs : V.ss[t]? = some false) (hd : ∀ W, Calls Tryz.prog 42 #[(.agg #[(k).c, (k).nx, .int .i64 ((k).a).o, .int .i64 ((k).a).l, .int .i64 ((k).a).v, .int .u32 ((k).a).r, .int .u32 ((k).a).f, .int .i64 ((k).a).v2, .int .u32 ((k).a).r2, .int .u32 ((k).a).f2, .slice (k).A (k).m (k).cp])] W fun e w' => e = .returned (.bool d) ∧ Below W.heap.size W w') : Calls Tryz.prog 78 #[(.agg #[.slice ((V).M).mem.pA ((V).M).mem.hs.length ((V).M).mem.pc, .slice ((V).M).mem.vA ((V).M).mem.vs.length ((V).M).mem.vc, .slice ((V).M).ln.fA ((V).M).ln.first.length ((V).M).ln.fc, .slice ((V).M).ln.lA ((V).M).ln.logs.length ((V).M).ln.lc, .map ((V).M).ln.asks, .slice ((V).M).sA ((V).M).steps.length ((V).M).sc, .int .i64 ((V).M).crashes, .slice (V).tA (V).ts.length (V).tc, .slice (V).sA (V).ss.length (V).sc]), .int .i64 ((t : Int) + 1)] w fun e w' => e = .returned (.bool (!d)) ∧ Below w.heap.size w w' := by
  have ht : t < V.ts.length := (List.getElem?_eq_some_iff.1 hk).1
  have hst := fun W (h : V.R W) => world_stopped V t false W h hs
  obtain ⟨bl, off, e, hbl, hcl⟩ := Rd.elem hR.2.1.2.2.1 taskc_len ht hk
  have Hst := hide hst
  have Hd := hide hd
  have HR := hide hR
  obtain ⟨M, tA, tc, ts, sA, sc, ss⟩ := V
  simp only at e ht hn
  subst e
  have g1 : (t : Int) + 1 ≥ 1 := by omega
  have g1' : (1 : Int) ≤ (t : Int) + 1 := by omega
  have g2 : (t : Int) + 1 ≤ (ts.length : Int) := by omega
  have h0 : (0 : Int) ≤ (t : Int) := by omega
  have h1 : (t : Int) < (ts.length : Int) := by omega
  have hw1 : IntKind.i64.wrap ((t : Int) + 1 - 1) = (t : Int) := by rw [show (t : Int) + 1 - 1 = (t : Int) by omega]; exact IntWalk.i64_in _ (by omega)
  have hw2 : IntKind.i64.wrap (t : Int) = (t : Int) := IntWalk.i64_in _ (by omega)
  have hz : bl < w.heap.size + 1 := by omega
  have t0 : w.cell? ⟨bl, off + t * 11, none⟩ = some (k.c) := hcl 0 _ rfl
  have t1 : w.cell? ⟨bl, off + t * 11 + 1, none⟩ = some (k.nx) := hcl 1 _ rfl
  have t2 : w.cell? ⟨bl, off + t * 11 + 2, none⟩ = some (.int .i64 k.a.o) := hcl 2 _ rfl
  have t3 : w.cell? ⟨bl, off + t * 11 + 3, none⟩ = some (.int .i64 k.a.l) := hcl 3 _ rfl
  have t4 : w.cell? ⟨bl, off + t * 11 + 4, none⟩ = some (.int .i64 k.a.v) := hcl 4 _ rfl
  have t5 : w.cell? ⟨bl, off + t * 11 + 5, none⟩ = some (.int .u32 k.a.r) := hcl 5 _ rfl
  have t6 : w.cell? ⟨bl, off + t * 11 + 6, none⟩ = some (.int .u32 k.a.f) := hcl 6 _ rfl
  have t7 : w.cell? ⟨bl, off + t * 11 + 7, none⟩ = some (.int .i64 k.a.v2) := hcl 7 _ rfl
  have t8 : w.cell? ⟨bl, off + t * 11 + 8, none⟩ = some (.int .u32 k.a.r2) := hcl 8 _ rfl
  have t9 : w.cell? ⟨bl, off + t * 11 + 9, none⟩ = some (.int .u32 k.a.f2) := hcl 9 _ rfl
  have t10 : w.cell? ⟨bl, off + t * 11 + 10, none⟩ = some (.slice k.A k.m k.cp) := hcl 10 _ rfl
  clear hR hst hd hs hk hcl
  go_enter Tryz.func78, Tryz.ntmps78
  go_wp2_with (first
    | (go_at_call 107; refine (Hst.out _ (HR.out.below ab0)).mono ?_; rintro e w1 ⟨rfl, hb1⟩; obtain ⟨hcc1, hff1⟩ := bcell hb1; have hs1 := hb1.size; (try simp at hs1); have hz1 : w.heap.size < w1.heap.size := (by omega); have hz2 : bl < w1.heap.size := (by omega))
    | (go_at_call 42; refine (Hd.out _).mono ?_; rintro e w2 ⟨rfl, hb2⟩; obtain ⟨hcc2, hff2⟩ := bcell hb2; have hs2 := hb2.size; (try simp at hs2)))
  go_ret
  exact ⟨rfl, ab0⟩
end Go.Proofs.YtfdndkgjmmeafaaGreatDoor

namespace Go.Proofs.YtfdndkgjmmeafaaGreatDoor
set_option linter.unusedSimpArgs false
set_option linter.unusedVariables false
open Go.RowKit
theorem info_cT : (Tryz.prog.info? 80).map (fun i => (i.zero, i.size, i.bytes)) = some (some (.agg #[.nilIface, .nilFunc, .int .i64 0, .int .i64 0, .int .i64 0, .int .u32 0, .int .u32 0, .int .i64 0, .int .u32 0, .int .u32 0, .slice none 0 0]), 11, 96) := by kernel_rfl
set_option maxRecDepth 100000 in
theorem clone_T (A : Option Addr) (n cap : Nat) (xs : List Value) (w : World) (hr : Rd w w.heap.size 11 A n xs) (hA : A = none → n = 0) (h1 : ∀ u ∈ xs, u.oneCell' = true) (hn : n ≤ 1000000) :
    Calls Tryz.prog 109 #[.slice A n cap] w fun e w' => ∃ A' cap', e = .returned (.slice A' n cap') ∧ w'.ownsRow w.heap.size 80 11 (.slice A' n cap') n xs ∧ Below w.heap.size w w' := by
  obtain ⟨i0, hi0, jz0, jz1, jz2⟩ := info_parts info_cT
  have hi := hide hi0
  have iz0 := hide jz0
  have iz1 := hide jz1
  have iz2 := hide jz2
  clear hi0 jz0 jz1 jz2
  have Hr := hide hr
  have H1 := hide h1
  cases A with
  | none =>
    obtain rfl : n = 0 := hA rfl
    have hx : xs = [] := List.eq_nil_of_length_eq_zero (by simpa using hr.1)
    subst hx
    have heq : ∀ W : World, (binOp .eql 43 (.slice none 0 cap) (.slice none 0 0)).run Tryz.prog W = .ok (.bool true) W := fun W => by kernel_rfl
    clear hr hA
    go_enter Tryz.func109, Tryz.ntmps109
    go_wp2_with fail
    go_ret
    exact ⟨none, 0, rfl, World.ownsRow_nil _ _ _ _, ab0⟩
  | some a =>
    have heq : ∀ W : World, (binOp .eql 43 (.slice (some a) n cap) (.slice none 0 0)).run Tryz.prog W = .ok (.bool false) W := fun W => by kernel_rfl
    clear hr hA h1
    go_enter Tryz.func109, Tryz.ntmps109
    go_wp2_with (first
      | (at_builtin; refine wpList_append_rd rfl _ _ 43 rfl w.heap.size 80 i0 _ 11 96 Tryz.underlying43 hi.out iz0.out iz1.out iz2.out rfl (by decide) (.slice (some ⟨w.heap.size, 0, none⟩) 0 0) 0 [] rfl (World.ownsRow_made w #[] 0 (Nat.le_refl _) (Nat.zero_le _) rfl) (some a) n cap xs rfl w.heap.size (Hr.out.below ab0) H1.out (by unfold maxLen; omega) (by omega) (by simp) w.heap.size w ab0 (Nat.le_refl _) ?_; intro v' w6 hown6 hb6 hsz6))
    rw [Nat.zero_add, List.nil_append] at hown6
    obtain ⟨A', cap', rfl, hcp, hbl⟩ := own_slice hown6
    go_wp2_with fail
    go_ret
    exact ⟨A', cap', rfl, hown6, ab0⟩
theorem ones_tasks (l : List TaskV) (h : ∀ k ∈ l, k.ok) : ∀ u ∈ l.flatMap taskc, u.oneCell' = true := by
  intro u hu
  obtain ⟨k, hk, hu⟩ := List.mem_flatMap.1 hu
  obtain ⟨⟨T, p, h1⟩, h2⟩ := h k hk
  simp only [taskc, List.mem_cons, List.not_mem_nil, or_false] at hu
  rcases hu with rfl | rfl | rfl | rfl | rfl | rfl | rfl | rfl | rfl | rfl | rfl
  · rw [h1]; rfl
  · rcases h2 with ⟨T2, p2, h2⟩ | h2
    · rw [h2]; rfl
    · rw [h2]; rfl
  all_goals rfl
end Go.Proofs.YtfdndkgjmmeafaaGreatDoor

