/- Package task: the world; dead, stopped, takes. -/
import Derived.Test.YtmjkopejbdipcaaG02
import Derived.Test.YtmjkopejbdipcaaG10
import Derived.Test.YtmjkopejbdipcaaG17
namespace Go.Proofs.Ytmjkopejbdipcaa
set_option linter.unusedSimpArgs false
set_option linter.unusedVariables false
open Go.RowKit Go.Maps
/-- A task: its code, what runs it on, its act, the results it was given. -/
structure TaskV where
  c : Value
  nx : Value
  a : AS
  A : Option Addr
  m : Nat
  cp : Nat
def taskc (k : TaskV) : List Value := [k.c, k.nx, .int .i64 (k.a).o, .int .i64 (k.a).l, .int .i64 (k.a).v, .int .u32 (k.a).r, .int .u32 (k.a).f, .int .i64 (k.a).v2, .int .u32 (k.a).r2, .int .u32 (k.a).f2, .slice k.A k.m k.cp]
theorem taskc_len (k : TaskV) : (taskc k).length = 11 := rfl
/-- What a task's code and what runs it on may be. -/
def TaskV.ok (k : TaskV) : Prop := (∃ T p, k.c = .iface T p) ∧ ((∃ T p, k.nx = .func (Fn.method "Next") #[.iface T p] #[]) ∨ k.nx = .nilFunc)
structure WorldV where
  M : MachV
  tA : Option Addr
  tc : Nat
  ts : List TaskV
  sA : Option Addr
  sc : Nat
  ss : List Bool
def WorldV.R (w : World) (V : WorldV) : Prop := V.M.R w ∧ (V.ts.length ≤ V.tc ∧ (V.tA = none → V.ts.length = 0) ∧ Rd w w.heap.size 11 V.tA V.ts.length (V.ts.flatMap taskc) ∧ ∀ k ∈ V.ts, GotsR w k.A k.m k.cp ∧ k.ok) ∧ (V.ss.length ≤ V.sc ∧ (V.sA = none → V.ss.length = 0) ∧ Rd w w.heap.size 1 V.sA V.ss.length (V.ss.map Value.bool))
theorem WorldV.R.below {w w' : World} {V : WorldV} (h : V.R w) (hb : Below w.heap.size w w') : V.R w' :=
  ⟨h.1.below hb, ⟨h.2.1.1, h.2.1.2.1, (h.2.1.2.2.1.below hb).more hb.size, fun k hk => ⟨(h.2.1.2.2.2 k hk).1.below hb, (h.2.1.2.2.2 k hk).2⟩⟩, h.2.2.1, h.2.2.2.1, (h.2.2.2.2.below hb).more hb.size⟩
def WorldV.off (C : Nat) (V : WorldV) : Prop := V.M.off C ∧ OffC C V.ts.length V.tA ∧ OffC C V.ss.length V.sA ∧ ∀ k ∈ V.ts, OffC C k.m k.A
theorem WorldV.off_new {w : World} {V : WorldV} {C : Nat} (h : V.R w) (hC : w.heap.size ≤ C) : V.off C := ⟨MachV.off_new h.1 hC, OffC.new h.2.1.2.2.1 hC, OffC.new h.2.2.2.2 hC, fun k hk => by
  obtain ⟨_, _, xs, hr⟩ := (h.2.1.2.2.2 k hk).1
  exact OffC.new hr hC⟩
theorem GotsR.set' {w : World} {A : Option Addr} {m cp C o : Nat} (h : GotsR w A m cp) (hoff : OffC C m A) (x : Value) : GotsR (w.setCell ⟨C, o, none⟩ x) A m cp := by
  obtain ⟨h1, h2, xs, h3⟩ := h
  refine ⟨h1, h2, xs, ?_⟩
  rw [show (w.setCell ⟨C, o, none⟩ x).heap.size = w.heap.size by simp]
  exact Rd.set_off h3 hoff x
theorem WorldV.R.set {w : World} {V : WorldV} {C o : Nat} (h : V.R w) (hoff : V.off C) (hc : HasC ⟨C, o, none⟩ w) (x : Value) : V.R (w.setCell ⟨C, o, none⟩ x) := by
  have es : (w.setCell ⟨C, o, none⟩ x).heap.size = w.heap.size := by simp
  refine ⟨h.1.set hoff.1 hc x, ⟨h.2.1.1, h.2.1.2.1, ?_, fun k hk => ⟨(h.2.1.2.2.2 k hk).1.set' (hoff.2.2.2 k hk) x, (h.2.1.2.2.2 k hk).2⟩⟩, h.2.2.1, h.2.2.2.1, ?_⟩
  · rw [es]; exact Rd.set_off h.2.1.2.2.1 hoff.2.1 x
  · rw [es]; exact Rd.set_off h.2.2.2.2 hoff.2.2.1 x
theorem WorldV.R.drew {w : World} {V : WorldV} (h : V.R w) : V.R w.drew := h.below (Below.drew (Below.refl _ _))
theorem world_dead (V : WorldV) (w : World) (h : 0 < V.M.mem.vs.length) : Calls Try.prog 24 #[(.agg #[.slice ((V).M).mem.pA ((V).M).mem.hs.length ((V).M).mem.pc, .slice ((V).M).mem.vA ((V).M).mem.vs.length ((V).M).mem.vc, .slice ((V).M).ln.fA ((V).M).ln.first.length ((V).M).ln.fc, .slice ((V).M).ln.lA ((V).M).ln.logs.length ((V).M).ln.lc, .map ((V).M).ln.asks, .slice ((V).M).sA ((V).M).steps.length ((V).M).sc, .int .i64 ((V).M).crashes, .slice (V).tA (V).ts.length (V).tc, .slice (V).sA (V).ss.length (V).sc])] w fun e w' => e = .returned (.bool false) ∧ Below w.heap.size w w' := by
  have hsz := fun W => mach_size V.M W
  have Hsz := hide hsz
  have hn : ¬ ((V.M.mem.vs.length : Int) = 0) := by omega
  have hn2 : ((V.M.mem.vs.length : Int) == 0) = false := by simpa using hn
  clear hsz
  go_enter Try.func24, Try.ntmps24
  go_wp2_with (first | (go_at_call 22; refine (Hsz.out _).mono ?_; rintro e w1 ⟨rfl, hb1⟩; obtain ⟨hcc1, hff1⟩ := bcell hb1; have hs1 := hb1.size; (try simp at hs1)))
  go_ret
  exact ⟨rfl, (by repeat' (first | with_reducible exact Below.refl _ _ | with_reducible assumption | with_reducible refine Below.alloc ?_ ?_ _ | with_reducible refine Below.setCell ?_ ?_ _ | with_reducible refine Below.drew ?_ | with_reducible refine below_drewN ?_ _ | with_reducible refine Below.trans ?_ (Below.mono (by with_reducible assumption) ?_) | omega | (simp <;> omega)))⟩
set_option maxRecDepth 100000 in
theorem world_stopped (V : WorldV) (t : Nat) (b : Bool) (w : World) (hR : V.R w) (hb : V.ss[t]? = some b) : Calls Try.prog 41 #[(.agg #[.slice ((V).M).mem.pA ((V).M).mem.hs.length ((V).M).mem.pc, .slice ((V).M).mem.vA ((V).M).mem.vs.length ((V).M).mem.vc, .slice ((V).M).ln.fA ((V).M).ln.first.length ((V).M).ln.fc, .slice ((V).M).ln.lA ((V).M).ln.logs.length ((V).M).ln.lc, .map ((V).M).ln.asks, .slice ((V).M).sA ((V).M).steps.length ((V).M).sc, .int .i64 ((V).M).crashes, .slice (V).tA (V).ts.length (V).tc, .slice (V).sA (V).ss.length (V).sc]), .int .i64 t] w fun e w' => e = .returned (.bool b) ∧ Below w.heap.size w w' := by
  have ht : t < V.ss.length := (List.getElem?_eq_some_iff.1 hb).1
  obtain ⟨bl, off, e, hbl, c0⟩ := Rd.one hR.2.2.2.2 ht hb
  obtain ⟨M, tA, tc, ts, sA, sc, ss⟩ := V
  simp only at e ht
  subst e
  have h0 : (0 : Int) ≤ (t : Int) := by omega
  have h1 : (t : Int) < (ss.length : Int) := by omega
  have hz : bl < w.heap.size + 1 := by omega
  clear hR hb
  go_enter Try.func41, Try.ntmps41
  go_wp2_with fail
  go_ret
  exact ⟨rfl, (by repeat' (first | with_reducible exact Below.refl _ _ | with_reducible assumption | with_reducible refine Below.alloc ?_ ?_ _ | with_reducible refine Below.setCell ?_ ?_ _ | with_reducible refine Below.drew ?_ | with_reducible refine below_drewN ?_ _ | with_reducible refine Below.trans ?_ (Below.mono (by with_reducible assumption) ?_) | omega | (simp <;> omega)))⟩
set_option maxHeartbeats 4000000 in
set_option maxRecDepth 100000 in
theorem world_takes (V : WorldV) (t : Nat) (k : TaskV) (d : Bool) (w : World) (hR : V.R w) (hk : V.ts[t]? = some k) (hn : V.ts.length ≤ 1000) (hs : V.ss[t]? = some false) (hd : ∀ W, Calls Try.prog 42 #[(.agg #[(k).c, (k).nx, .int .i64 ((k).a).o, .int .i64 ((k).a).l, .int .i64 ((k).a).v, .int .u32 ((k).a).r, .int .u32 ((k).a).f, .int .i64 ((k).a).v2, .int .u32 ((k).a).r2, .int .u32 ((k).a).f2, .slice (k).A (k).m (k).cp])] W fun e w' => e = .returned (.bool d) ∧ Below W.heap.size W w') : Calls Try.prog 26 #[(.agg #[.slice ((V).M).mem.pA ((V).M).mem.hs.length ((V).M).mem.pc, .slice ((V).M).mem.vA ((V).M).mem.vs.length ((V).M).mem.vc, .slice ((V).M).ln.fA ((V).M).ln.first.length ((V).M).ln.fc, .slice ((V).M).ln.lA ((V).M).ln.logs.length ((V).M).ln.lc, .map ((V).M).ln.asks, .slice ((V).M).sA ((V).M).steps.length ((V).M).sc, .int .i64 ((V).M).crashes, .slice (V).tA (V).ts.length (V).tc, .slice (V).sA (V).ss.length (V).sc]), .int .i64 ((t : Int) + 1)] w fun e w' => e = .returned (.bool (!d)) ∧ Below w.heap.size w w' := by
  have ht : t < V.ts.length := (List.getElem?_eq_some_iff.1 hk).1
  have hst := fun W (h : V.R W) => world_stopped V t false W h hs
  obtain ⟨bl, off, e, hbl, hcl⟩ := Rd.elem hR.2.1.2.2.1 taskc_len ht hk
  have Hst := hide hst
  have Hd := hide hd
  have HR := hide hR
  obtain ⟨M, tA, tc, ts, sA, sc, ss⟩ := V
  simp only at e ht hn
  subst e
  have g1 : (t : Int) + 1 ≥ 1 := by omega
  have g1' : (1 : Int) ≤ (t : Int) + 1 := by omega
  have g2 : (t : Int) + 1 ≤ (ts.length : Int) := by omega
  have h0 : (0 : Int) ≤ (t : Int) := by omega
  have h1 : (t : Int) < (ts.length : Int) := by omega
  have hw1 : IntKind.i64.wrap ((t : Int) + 1 - 1) = (t : Int) := by rw [show (t : Int) + 1 - 1 = (t : Int) by omega]; exact IntWalk.i64_in _ (by omega)
  have hw2 : IntKind.i64.wrap (t : Int) = (t : Int) := IntWalk.i64_in _ (by omega)
  have hz : bl < w.heap.size + 1 := by omega
  have t0 : w.cell? ⟨bl, off + t * 11, none⟩ = some (k.c) := hcl 0 _ rfl
  have t1 : w.cell? ⟨bl, off + t * 11 + 1, none⟩ = some (k.nx) := hcl 1 _ rfl
  have t2 : w.cell? ⟨bl, off + t * 11 + 2, none⟩ = some (.int .i64 k.a.o) := hcl 2 _ rfl
  have t3 : w.cell? ⟨bl, off + t * 11 + 3, none⟩ = some (.int .i64 k.a.l) := hcl 3 _ rfl
  have t4 : w.cell? ⟨bl, off + t * 11 + 4, none⟩ = some (.int .i64 k.a.v) := hcl 4 _ rfl
  have t5 : w.cell? ⟨bl, off + t * 11 + 5, none⟩ = some (.int .u32 k.a.r) := hcl 5 _ rfl
  have t6 : w.cell? ⟨bl, off + t * 11 + 6, none⟩ = some (.int .u32 k.a.f) := hcl 6 _ rfl
  have t7 : w.cell? ⟨bl, off + t * 11 + 7, none⟩ = some (.int .i64 k.a.v2) := hcl 7 _ rfl
  have t8 : w.cell? ⟨bl, off + t * 11 + 8, none⟩ = some (.int .u32 k.a.r2) := hcl 8 _ rfl
  have t9 : w.cell? ⟨bl, off + t * 11 + 9, none⟩ = some (.int .u32 k.a.f2) := hcl 9 _ rfl
  have t10 : w.cell? ⟨bl, off + t * 11 + 10, none⟩ = some (.slice k.A k.m k.cp) := hcl 10 _ rfl
  clear hR hst hd hs hk hcl
  go_enter Try.func26, Try.ntmps26
  go_wp2_with (first
    | (go_at_call 41; refine (Hst.out _ (HR.out.below (by repeat' (first | with_reducible exact Below.refl _ _ | with_reducible assumption | with_reducible refine Below.alloc ?_ ?_ _ | with_reducible refine Below.setCell ?_ ?_ _ | with_reducible refine Below.drew ?_ | with_reducible refine below_drewN ?_ _ | with_reducible refine Below.trans ?_ (Below.mono (by with_reducible assumption) ?_) | omega | (simp <;> omega))))).mono ?_; rintro e w1 ⟨rfl, hb1⟩; obtain ⟨hcc1, hff1⟩ := bcell hb1; have hs1 := hb1.size; (try simp at hs1); have hz1 : w.heap.size < w1.heap.size := (by omega); have hz2 : bl < w1.heap.size := (by omega))
    | (go_at_call 42; refine (Hd.out _).mono ?_; rintro e w2 ⟨rfl, hb2⟩; obtain ⟨hcc2, hff2⟩ := bcell hb2; have hs2 := hb2.size; (try simp at hs2)))
  go_ret
  exact ⟨rfl, (by repeat' (first | with_reducible exact Below.refl _ _ | with_reducible assumption | with_reducible refine Below.alloc ?_ ?_ _ | with_reducible refine Below.setCell ?_ ?_ _ | with_reducible refine Below.drew ?_ | with_reducible refine below_drewN ?_ _ | with_reducible refine Below.trans ?_ (Below.mono (by with_reducible assumption) ?_) | omega | (simp <;> omega)))⟩
end Go.Proofs.Ytmjkopejbdipcaa
namespace Go.Proofs.Ytmjkopejbdipcaa
set_option linter.unusedSimpArgs false
set_option linter.unusedVariables false
open Go.RowKit
theorem info_cT : (Try.prog.info? 72).map (fun i => (i.zero, i.size, i.bytes)) = some (some (.agg #[.nilIface, .nilFunc, .int .i64 0, .int .i64 0, .int .i64 0, .int .u32 0, .int .u32 0, .int .i64 0, .int .u32 0, .int .u32 0, .slice none 0 0]), 11, 96) := by kernel_rfl
set_option maxRecDepth 100000 in
theorem clone_T (A : Option Addr) (n cap : Nat) (xs : List Value) (w : World) (hr : Rd w w.heap.size 11 A n xs) (hA : A = none → n = 0) (h1 : ∀ u ∈ xs, u.oneCell' = true) (hn : n ≤ 1000000) :
    Calls Try.prog 45 #[.slice A n cap] w fun e w' => ∃ A' cap', e = .returned (.slice A' n cap') ∧ w'.ownsRow w.heap.size 72 11 (.slice A' n cap') n xs ∧ Below w.heap.size w w' := by
  obtain ⟨i0, hi0, jz0, jz1, jz2⟩ := info_parts info_cT
  have hi := hide hi0
  have iz0 := hide jz0
  have iz1 := hide jz1
  have iz2 := hide jz2
  clear hi0 jz0 jz1 jz2
  have Hr := hide hr
  have H1 := hide h1
  cases A with
  | none =>
    obtain rfl : n = 0 := hA rfl
    have hx : xs = [] := List.eq_nil_of_length_eq_zero (by simpa using hr.1)
    subst hx
    have heq : ∀ W : World, (binOp .eql 51 (.slice none 0 cap) (.slice none 0 0)).run Try.prog W = .ok (.bool true) W := fun W => by kernel_rfl
    clear hr hA
    go_enter Try.func45, Try.ntmps45
    go_wp2_with fail
    go_ret
    exact ⟨none, 0, rfl, World.ownsRow_nil _ _ _ _, (by repeat' (first | with_reducible exact Below.refl _ _ | with_reducible assumption | with_reducible refine Below.alloc ?_ ?_ _ | with_reducible refine Below.setCell ?_ ?_ _ | with_reducible refine Below.drew ?_ | with_reducible refine below_drewN ?_ _ | with_reducible refine Below.trans ?_ (Below.mono (by with_reducible assumption) ?_) | omega | (simp <;> omega)))⟩
  | some a =>
    have heq : ∀ W : World, (binOp .eql 51 (.slice (some a) n cap) (.slice none 0 0)).run Try.prog W = .ok (.bool false) W := fun W => by kernel_rfl
    clear hr hA h1
    go_enter Try.func45, Try.ntmps45
    go_wp2_with (first
      | (at_builtin; refine wpList_append_rd rfl _ _ 51 rfl w.heap.size 72 i0 _ 11 96 Try.underlying51 hi.out iz0.out iz1.out iz2.out rfl (by decide) (.slice (some ⟨w.heap.size, 0, none⟩) 0 0) 0 [] rfl (World.ownsRow_made w #[] 0 (Nat.le_refl _) (Nat.zero_le _) rfl) (some a) n cap xs rfl w.heap.size (Hr.out.below (by repeat' (first | with_reducible exact Below.refl _ _ | with_reducible assumption | with_reducible refine Below.alloc ?_ ?_ _ | with_reducible refine Below.setCell ?_ ?_ _ | with_reducible refine Below.drew ?_ | with_reducible refine below_drewN ?_ _ | with_reducible refine Below.trans ?_ (Below.mono (by with_reducible assumption) ?_) | omega | (simp <;> omega)))) H1.out (by unfold maxLen; omega) (by omega) (by simp) w.heap.size w (by repeat' (first | with_reducible exact Below.refl _ _ | with_reducible assumption | with_reducible refine Below.alloc ?_ ?_ _ | with_reducible refine Below.setCell ?_ ?_ _ | with_reducible refine Below.drew ?_ | with_reducible refine below_drewN ?_ _ | with_reducible refine Below.trans ?_ (Below.mono (by with_reducible assumption) ?_) | omega | (simp <;> omega))) (Nat.le_refl _) ?_; intro v' w6 hown6 hb6 hsz6))
    rw [Nat.zero_add, List.nil_append] at hown6
    obtain ⟨A', cap', rfl, hcp, hbl⟩ := own_slice hown6
    go_wp2_with fail
    go_ret
    exact ⟨A', cap', rfl, hown6, (by repeat' (first | with_reducible exact Below.refl _ _ | with_reducible assumption | with_reducible refine Below.alloc ?_ ?_ _ | with_reducible refine Below.setCell ?_ ?_ _ | with_reducible refine Below.drew ?_ | with_reducible refine below_drewN ?_ _ | with_reducible refine Below.trans ?_ (Below.mono (by with_reducible assumption) ?_) | omega | (simp <;> omega)))⟩
theorem ones_tasks (l : List TaskV) (h : ∀ k ∈ l, k.ok) : ∀ u ∈ l.flatMap taskc, u.oneCell' = true := by
  intro u hu
  obtain ⟨k, hk, hu⟩ := List.mem_flatMap.1 hu
  obtain ⟨⟨T, p, h1⟩, h2⟩ := h k hk
  simp only [taskc, List.mem_cons, List.not_mem_nil, or_false] at hu
  rcases hu with rfl | rfl | rfl | rfl | rfl | rfl | rfl | rfl | rfl | rfl | rfl
  · rw [h1]; rfl
  · rcases h2 with ⟨T2, p2, h2⟩ | h2
    · rw [h2]; rfl
    · rw [h2]; rfl
  all_goals rfl
end Go.Proofs.Ytmjkopejbdipcaa
namespace Go.Proofs.Ytmjkopejbdipcaa
set_option linter.unusedSimpArgs false
set_option linter.unusedVariables false
open Go.RowKit
def setCells (w : World) (b o : Nat) : List Value → World
  | [] => w
  | v :: vs => setCells (w.setCell ⟨b, o, none⟩ v) b (o + 1) vs
def setRange {α : Type} (xs : List α) (i : Nat) : List α → List α
  | [] => xs
  | v :: vs => setRange (xs.set i v) (i + 1) vs
theorem setRange_len {α : Type} : ∀ (vs xs : List α) (i : Nat), (setRange xs i vs).length = xs.length
  | [], _, _ => rfl
  | v :: vs, xs, i => by rw [setRange, setRange_len vs, List.length_set]
theorem Rd.setCells {B size n b off : Nat} : ∀ (vs : List Value) {w : World} {xs : List Value} {i : Nat}, Rd w B size (some ⟨b, off, none⟩) n xs → i + vs.length ≤ xs.length → Rd (setCells w b (off + i) vs) B size (some ⟨b, off, none⟩) n (setRange xs i vs)
  | [], w, xs, i, h, _ => h
  | v :: vs, w, xs, i, h, hl => by
    rw [List.length_cons] at hl
    exact Rd.setCells vs (i := i + 1) (Rd.setAt h (i := i) (by omega) v) (by rw [List.length_set]; omega)
theorem setRange_eq {α : Type} : ∀ (vs xs : List α) (i : Nat), i + vs.length ≤ xs.length → setRange xs i vs = xs.take i ++ vs ++ xs.drop (i + vs.length)
  | [], xs, i, _ => by simp [setRange]
  | v :: vs, xs, i, h => by
    rw [List.length_cons] at h
    rw [setRange, setRange_eq vs _ _ (by rw [List.length_set]; omega), List.length_cons]
    have h1 : (xs.set i v).take (i + 1) = xs.take i ++ [v] := by
      rw [List.take_add_one, List.take_set_of_le (Nat.le_refl _), List.getElem?_set_self (by omega)]
      rfl
    have h2 : (xs.set i v).drop (i + 1 + vs.length) = xs.drop (i + (vs.length + 1)) := by
      rw [List.drop_set_of_lt (by omega), show i + 1 + vs.length = i + (vs.length + 1) by omega]
    rw [h1, h2]
    simp
theorem flatMap_put {α β : Type} {s : Nat} {g : α → List β} (hg : ∀ a, (g a).length = s) (l : List α) (j : Nat) (a' : α) (hj : j < l.length) : setRange (l.flatMap g) (j * s) (g a') = (l.set j a').flatMap g := by
  have hlen : ∀ l : List α, (l.flatMap g).length = l.length * s := by
    intro l
    induction l with
    | nil => simp
    | cons a l ih => rw [List.flatMap_cons, List.length_append, ih, hg, List.length_cons, Nat.succ_mul]; omega
  have h1 : (j + 1) * s ≤ l.length * s := Nat.mul_le_mul_right _ hj
  rw [Nat.succ_mul] at h1
  rw [setRange_eq _ _ _ (by rw [hg, hlen]; exact h1), hg, List.set_eq_take_append_cons_drop, if_pos hj]
  rw [List.flatMap_append, List.flatMap_cons]
  have e1 : (l.flatMap g).take (j * s) = (l.take j).flatMap g := by
    conv => lhs; rw [← List.take_append_drop j l, List.flatMap_append]
    rw [List.take_append_of_le_length (by rw [hlen, List.length_take, Nat.min_eq_left (by omega)]; exact Nat.le_refl _), List.take_of_length_le (by rw [hlen, List.length_take, Nat.min_eq_left (by omega)]; exact Nat.le_refl _)]
  have e2 : (l.flatMap g).drop (j * s + s) = (l.drop (j + 1)).flatMap g := by
    conv => lhs; rw [← List.take_append_drop (j + 1) l, List.flatMap_append]
    have hx : ((l.take (j + 1)).flatMap g).length = j * s + s := by rw [hlen, List.length_take, Nat.min_eq_left (by omega), Nat.succ_mul]
    rw [← hx, List.drop_left]
  rw [e1, e2, List.append_assoc]
end Go.Proofs.Ytmjkopejbdipcaa
