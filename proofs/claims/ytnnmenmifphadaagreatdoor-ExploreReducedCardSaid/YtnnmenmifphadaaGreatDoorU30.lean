/- Package machine: Do. -/
import Derived.Deep.CutBlock
import Derived.Test.YtnnmenmifphadaaGreatDoorU28
set_option linter.unusedSimpArgs false
set_option linter.unusedVariables false
set_option maxRecDepth 100000
set_option maxHeartbeats 40000000
namespace Go.Proofs.YtnnmenmifphadaaGreatDoor
open Go.RowKit Go.Maps
theorem ones_int (l : List Int) : ∀ u ∈ l.map (Value.int .i64), u.oneCell' = true := by
 intro u hu
 obtain ⟨y, -, rfl⟩ := List.mem_map.1 hu
 rfl
def Inner (m : MachV) (E : MachV → W3 → Bool → Prop) (W : World) (e : Ending) (w' : World) : Prop := ∃ (m1 : MachV) (x : W3) (ok : Bool), e = .returned (.tuple #[(.agg #[.slice (m1).mem.pA (m1).mem.hs.length (m1).mem.pc, .slice (m1).mem.vA (m1).mem.vs.length (m1).mem.vc, .slice (m1).ln.fA (m1).ln.first.length (m1).ln.fc, .slice (m1).ln.lA (m1).ln.logs.length (m1).ln.lc, .map (m1).ln.asks, .slice (m1).sA (m1).steps.length (m1).sc, .int .i64 (m1).crashes]), (.agg #[.int .i64 (x).v, .int .u32 (x).r, .int .u32 (x).f, .bool ok])]) ∧ E m1 x ok ∧ (m1.sA = m.sA ∧ m1.sc = m.sc ∧ m1.steps = m.steps ∧ m1.crashes = m.crashes) ∧ m1.R w' ∧ (∀ C, C < W.heap.size → m.off C → m1.off C) ∧ Below W.heap.size W w'
def InnerL (m : MachV) (E : MachV → W3 → Bool → Prop) (W : World) (e : Ending) (w' : World) : Prop := ∃ (ln1 : LinesV) (ak1 : Nat → Int → Int), e = .returned (.tuple #[(.agg #[.slice (ln1).fA (ln1).first.length (ln1).fc, .slice (ln1).lA (ln1).logs.length (ln1).lc, .map (ln1).asks]), .int .i64 0]) ∧ E ⟨m.mem, ln1, m.sA, m.sc, m.steps, m.crashes, ak1⟩ ⟨0, 0, 0⟩ true ∧ MachV.R w' ⟨m.mem, ln1, m.sA, m.sc, m.steps, m.crashes, ak1⟩ ∧ (∀ C, C < W.heap.size → m.off C → MachV.off C ⟨m.mem, ln1, m.sA, m.sc, m.steps, m.crashes, ak1⟩) ∧ Below W.heap.size W w'
def DoKind (m : MachV) (t : Nat) (act : ActV) (ch : Int) (E : MachV → W3 → Bool → Prop) : Prop :=
 (act.op = 0 ∧ E m ⟨0, 0, 0⟩ true)
 ∨ ((act.op = 1 ∨ act.op = 2 ∨ act.op = 5) ∧ ∀ W, m.R W → Calls Tryz.prog 113 #[(.agg #[.slice (m).mem.pA (m).mem.hs.length (m).mem.pc, .slice (m).mem.vA (m).mem.vs.length (m).mem.vc, .slice (m).ln.fA (m).ln.first.length (m).ln.fc, .slice (m).ln.lA (m).ln.logs.length (m).ln.lc, .map (m).ln.asks, .slice (m).sA (m).steps.length (m).sc, .int .i64 (m).crashes]), .int .i64 ((t : Int) + 1), (.agg #[.int .i64 (act).op, .int .i64 (act).at_, .int .i64 (act).old.v, .int .u32 (act).old.r, .int .u32 (act).old.f, .int .i64 (act).new.v, .int .u32 (act).new.r, .int .u32 (act).new.f]), .int .i64 ch] W (Inner m E W))
 ∨ ((act.op = 3 ∨ act.op = 4 ∨ act.op = 6) ∧ ∀ W, m.R W → Calls Tryz.prog 111 #[(.agg #[.slice (m).mem.pA (m).mem.hs.length (m).mem.pc, .slice (m).mem.vA (m).mem.vs.length (m).mem.vc, .slice (m).ln.fA (m).ln.first.length (m).ln.fc, .slice (m).ln.lA (m).ln.logs.length (m).ln.lc, .map (m).ln.asks, .slice (m).sA (m).steps.length (m).sc, .int .i64 (m).crashes]), .int .i64 ((t : Int) + 1), (.agg #[.int .i64 (act).op, .int .i64 (act).at_, .int .i64 (act).old.v, .int .u32 (act).old.r, .int .u32 (act).old.f, .int .i64 (act).new.v, .int .u32 (act).new.r, .int .u32 (act).new.f])] W (Inner m E W))
 ∨ (act.op = 7 ∧ ∀ W, m.R W → Calls Tryz.prog 112 #[(.agg #[.slice (m.ln).fA (m.ln).first.length (m.ln).fc, .slice (m.ln).lA (m.ln).logs.length (m.ln).lc, .map (m.ln).asks]), .int .i64 ((t : Int) + 1), .int .i64 act.at_] W (InnerL m E W))
 ∨ (act.op = 8 ∧ ∀ W, m.R W → Calls Tryz.prog 82 #[(.agg #[.slice (m.ln).fA (m.ln).first.length (m.ln).fc, .slice (m.ln).lA (m.ln).logs.length (m.ln).lc, .map (m.ln).asks]), .int .i64 ((t : Int) + 1)] W (InnerL m E W))
def MachV.stepped (m1 : MachV) (gs sc t : Nat) (s : Int) : MachV := ⟨m1.mem, m1.ln, some ⟨gs, 0, none⟩, sc, m1.steps.set t s, m1.crashes, m1.ak⟩
def machl (m : MachV) : List Value := [.slice m.mem.pA m.mem.hs.length m.mem.pc, .slice m.mem.vA m.mem.vs.length m.mem.vc, .slice m.ln.fA m.ln.first.length m.ln.fc, .slice m.ln.lA m.ln.logs.length m.ln.lc, .map m.ln.asks, .slice m.sA m.steps.length m.sc, .int .i64 m.crashes]
def machz : List Value := [.slice none 0 0, .slice none 0 0, .slice none 0 0, .slice none 0 0, .map none, .slice none 0 0, .int .i64 0]
def gotl (x : W3) (ok : Bool) : List Value := [.int .i64 x.v, .int .u32 x.r, .int .u32 x.f, .bool ok]
def gotz : List Value := [.int .i64 0, .int .u32 0, .int .u32 0, .bool false]
def DoMid (w w1 : World) (m : MachV) (E : MachV → W3 → Bool → Prop) (wx : World) : Prop := ∃ (m1 : MachV) (x : W3) (ok : Bool),
 BoxC w.heap.size (machl m1) wx ∧ BoxC (w.heap.size + 1 + 1) machz wx ∧ BoxC (w.heap.size + 1 + 1 + 1) gotz wx ∧ BoxC w1.heap.size (gotl x ok) wx ∧ m1.R wx ∧ E m1 x ok ∧ m1.steps = m.steps
  ∧ (m1.off w.heap.size ∧ m1.off (w.heap.size + 1 + 1) ∧ m1.off (w.heap.size + 1 + 1 + 1) ∧ m1.off w1.heap.size) ∧ (∀ C, C < w.heap.size → m.off C → m1.off C) ∧ Below w.heap.size w wx ∧ w1.heap.size < wx.heap.size
theorem MachV.R.fill {w : World} {m : MachV} {B n : Nat} {l : List Value} (h : m.R w) (hoff : m.off B) (hb : BoxE B n w) (hl : l.length ≤ n) (k : Nat) (hk : k + l.length ≤ n) : m.R (setFrom w B k l) :=
 keep_setFrom (P := fun w => m.R w) (fun _ _ x hc h => h.set hoff hc x) l k hk hb h
theorem box_of4 {B : Nat} {v0 v1 v2 v3 : Value} {w : World} (h0 : w.cell? ⟨B, 0, none⟩ = some v0) (h1 : w.cell? ⟨B, 1, none⟩ = some v1) (h2 : w.cell? ⟨B, 2, none⟩ = some v2) (h3 : w.cell? ⟨B, 3, none⟩ = some v3) (hf : ∀ o, w.frozen? ⟨B, o, none⟩ = false) : BoxC B [v0, v1, v2, v3] w :=
 ⟨fun j u hu => by
  match j, hu with
  | 0, hu => injection hu with hu; subst hu; exact h0
  | 1, hu => injection hu with hu; subst hu; exact h1
  | 2, hu => injection hu with hu; subst hu; exact h2
  | 3, hu => injection hu with hu; subst hu; exact h3, hf, cell_lt h0⟩
theorem box_of7 {B : Nat} {v0 v1 v2 v3 v4 v5 v6 : Value} {w : World} (h0 : w.cell? ⟨B, 0, none⟩ = some v0) (h1 : w.cell? ⟨B, 1, none⟩ = some v1) (h2 : w.cell? ⟨B, 2, none⟩ = some v2) (h3 : w.cell? ⟨B, 3, none⟩ = some v3) (h4 : w.cell? ⟨B, 4, none⟩ = some v4) (h5 : w.cell? ⟨B, 5, none⟩ = some v5) (h6 : w.cell? ⟨B, 6, none⟩ = some v6) (hf : ∀ o, w.frozen? ⟨B, o, none⟩ = false) : BoxC B [v0, v1, v2, v3, v4, v5, v6] w :=
 ⟨fun j u hu => by
  match j, hu with
  | 0, hu => injection hu with hu; subst hu; exact h0
  | 1, hu => injection hu with hu; subst hu; exact h1
  | 2, hu => injection hu with hu; subst hu; exact h2
  | 3, hu => injection hu with hu; subst hu; exact h3
  | 4, hu => injection hu with hu; subst hu; exact h4
  | 5, hu => injection hu with hu; subst hu; exact h5
  | 6, hu => injection hu with hu; subst hu; exact h6, hf, cell_lt h0⟩
theorem box_of8 {B : Nat} {v0 v1 v2 v3 v4 v5 v6 v7 : Value} {w : World} (h0 : w.cell? ⟨B, 0, none⟩ = some v0) (h1 : w.cell? ⟨B, 1, none⟩ = some v1) (h2 : w.cell? ⟨B, 2, none⟩ = some v2) (h3 : w.cell? ⟨B, 3, none⟩ = some v3) (h4 : w.cell? ⟨B, 4, none⟩ = some v4) (h5 : w.cell? ⟨B, 5, none⟩ = some v5) (h6 : w.cell? ⟨B, 6, none⟩ = some v6) (h7 : w.cell? ⟨B, 7, none⟩ = some v7) (hf : ∀ o, w.frozen? ⟨B, o, none⟩ = false) : BoxC B [v0, v1, v2, v3, v4, v5, v6, v7] w :=
 ⟨fun j u hu => by
  match j, hu with
  | 0, hu => injection hu with hu; subst hu; exact h0
  | 1, hu => injection hu with hu; subst hu; exact h1
  | 2, hu => injection hu with hu; subst hu; exact h2
  | 3, hu => injection hu with hu; subst hu; exact h3
  | 4, hu => injection hu with hu; subst hu; exact h4
  | 5, hu => injection hu with hu; subst hu; exact h5
  | 6, hu => injection hu with hu; subst hu; exact h6
  | 7, hu => injection hu with hu; subst hu; exact h7, hf, cell_lt h0⟩
theorem box_set2 {B : Nat} {a b c d e f g x y z : Value} {w : World} (h : BoxC B [a, b, c, d, e, f, g] w) : BoxC B [a, b, x, y, z, f, g] (setFrom w B 2 [x, y, z]) :=
 ((h.store (o := 2) sM x).store (o := 3) sM y).store (o := 4) sM z
theorem mach_do (m : MachV) (t : Nat) (s ch : Int) (act : ActV) (w : World) (E : MachV → W3 → Bool → Prop) (hR : m.R w) (ht : t < m.mem.vs.length) (hn : m.mem.vs.length ≤ 1000) (hs : m.steps[t]? = some s) (hs6 : m.steps.length ≤ 1000) (hgood : act.good m.mem.hs.length) (hk : DoKind m t act ch E) :
  Calls Tryz.prog 65 #[(maV m), .int .i64 ((t : Int) + 1), (avV act), .int .i64 ch] w fun e w' => ∃ (m1 : MachV) (x : W3) (ok : Bool) (gs sc' : Nat), e = .returned (.tuple #[(maV (m1.stepped gs sc' t (wrap64 (s + 1)))), (.agg #[.int .i64 (x).v, .int .u32 (x).r, .int .u32 (x).f, .bool ok]), .int .i64 0]) ∧ E m1 x ok ∧ MachV.R w' (m1.stepped gs sc' t (wrap64 (s + 1))) ∧ (∀ C, C < w.heap.size → m.off C → MachV.off C (m1.stepped gs sc' t (wrap64 (s + 1)))) ∧ Below w.heap.size w w' := by
 have hts : t < m.steps.length := (List.getElem?_eq_some_iff.1 hs).1
 have hchk := fun W => mach_check m t act W ht hgood
 have Hchk := hide hchk
 have hchg := fun W => mach_changes act W
 have HR := hide hR
 have HS := hide hs
 have Hk := hide hk
 obtain ⟨bc, hbc⟩ : ∃ b, b = (decide (act.op = 3) || decide (act.op = 4) || decide (act.op = 6)) := ⟨_, rfl⟩
 rw [← hbc] at hchg
 have Hbc := hide hbc
 have Hchg := hide hchg
 clear hchk hR hs hgood hk hchg hbc
 go_enter Tryz.func65, Tryz.ntmps65
 go_upto_block 0 with (go_at_call 110; refine (Hchk.out _).mono ?_; rintro e w1 ⟨rfl, hb1⟩; obtain ⟨hcc1, hff1, hs1⟩ := bC hb1; (try simp at hs1); have hz10 : w.heap.size < w1.heap.size := oM; have hz11 : w.heap.size + 1 < w1.heap.size := oM; have hz12 : w.heap.size + 1 + 1 < w1.heap.size := oM; have hz13 : w.heap.size + 1 + 1 + 1 < w1.heap.size := oM)
 obtain ⟨w2, hw2⟩ : ∃ W : World, W = w1.alloc (.cells #[.int .i64 0, .int .u32 0, .int .u32 0, .bool true] 99) := ⟨_, rfl⟩
 have hz24 : w1.heap.size < w2.heap.size := by rw [hw2]; simp
 have b0 : w2.cell? ⟨w.heap.size, 0, none⟩ = some (.slice m.mem.pA m.mem.hs.length m.mem.pc) := by rw [hw2]; go_simp
 have b1 : w2.cell? ⟨w.heap.size, 1, none⟩ = some (.slice m.mem.vA m.mem.vs.length m.mem.vc) := by rw [hw2]; go_simp
 have b2 : w2.cell? ⟨w.heap.size, 2, none⟩ = some (.slice m.ln.fA m.ln.first.length m.ln.fc) := by rw [hw2]; go_simp
 have b3 : w2.cell? ⟨w.heap.size, 3, none⟩ = some (.slice m.ln.lA m.ln.logs.length m.ln.lc) := by rw [hw2]; go_simp
 have b4 : w2.cell? ⟨w.heap.size, 4, none⟩ = some (.map m.ln.asks) := by rw [hw2]; go_simp
 have b5 : w2.cell? ⟨w.heap.size, 5, none⟩ = some (.slice m.sA m.steps.length m.sc) := by rw [hw2]; go_simp
 have b6 : w2.cell? ⟨w.heap.size, 6, none⟩ = some (.int .i64 m.crashes) := by rw [hw2]; go_simp
 have a0 : w2.cell? ⟨w.heap.size + 1, 0, none⟩ = some (.int .i64 act.op) := by rw [hw2]; go_simp
 have a1 : w2.cell? ⟨w.heap.size + 1, 1, none⟩ = some (.int .i64 act.at_) := by rw [hw2]; go_simp
 have a2 : w2.cell? ⟨w.heap.size + 1, 2, none⟩ = some (.int .i64 act.old.v) := by rw [hw2]; go_simp
 have a3 : w2.cell? ⟨w.heap.size + 1, 3, none⟩ = some (.int .u32 act.old.r) := by rw [hw2]; go_simp
 have a4 : w2.cell? ⟨w.heap.size + 1, 4, none⟩ = some (.int .u32 act.old.f) := by rw [hw2]; go_simp
 have a5 : w2.cell? ⟨w.heap.size + 1, 5, none⟩ = some (.int .i64 act.new.v) := by rw [hw2]; go_simp
 have a6 : w2.cell? ⟨w.heap.size + 1, 6, none⟩ = some (.int .u32 act.new.r) := by rw [hw2]; go_simp
 have a7 : w2.cell? ⟨w.heap.size + 1, 7, none⟩ = some (.int .u32 act.new.f) := by rw [hw2]; go_simp
 have r0 : w2.cell? ⟨w.heap.size + 1 + 1, 0, none⟩ = some (.slice none 0 0) := by rw [hw2]; go_simp
 have r1 : w2.cell? ⟨w.heap.size + 1 + 1, 1, none⟩ = some (.slice none 0 0) := by rw [hw2]; go_simp
 have r2 : w2.cell? ⟨w.heap.size + 1 + 1, 2, none⟩ = some (.slice none 0 0) := by rw [hw2]; go_simp
 have r3 : w2.cell? ⟨w.heap.size + 1 + 1, 3, none⟩ = some (.slice none 0 0) := by rw [hw2]; go_simp
 have r4 : w2.cell? ⟨w.heap.size + 1 + 1, 4, none⟩ = some (.map none) := by rw [hw2]; go_simp
 have r5 : w2.cell? ⟨w.heap.size + 1 + 1, 5, none⟩ = some (.slice none 0 0) := by rw [hw2]; go_simp
 have r6 : w2.cell? ⟨w.heap.size + 1 + 1, 6, none⟩ = some (.int .i64 0) := by rw [hw2]; go_simp
 have g0 : w2.cell? ⟨w.heap.size + 1 + 1 + 1, 0, none⟩ = some (.int .i64 0) := by rw [hw2]; go_simp
 have g1 : w2.cell? ⟨w.heap.size + 1 + 1 + 1, 1, none⟩ = some (.int .u32 0) := by rw [hw2]; go_simp
 have g2 : w2.cell? ⟨w.heap.size + 1 + 1 + 1, 2, none⟩ = some (.int .u32 0) := by rw [hw2]; go_simp
 have g3 : w2.cell? ⟨w.heap.size + 1 + 1 + 1, 3, none⟩ = some (.bool false) := by rw [hw2]; go_simp
 have x0 : w2.cell? ⟨w1.heap.size, 0, none⟩ = some (.int .i64 0) := by rw [hw2]; go_simp
 have x1 : w2.cell? ⟨w1.heap.size, 1, none⟩ = some (.int .u32 0) := by rw [hw2]; go_simp
 have x2 : w2.cell? ⟨w1.heap.size, 2, none⟩ = some (.int .u32 0) := by rw [hw2]; go_simp
 have x3 : w2.cell? ⟨w1.heap.size, 3, none⟩ = some (.bool true) := by rw [hw2]; go_simp
 have fb : ∀ o, w2.frozen? ⟨w.heap.size, o, none⟩ = false := by intro o; rw [hw2]; go_simp
 have fa : ∀ o, w2.frozen? ⟨w.heap.size + 1, o, none⟩ = false := by intro o; rw [hw2]; go_simp
 have fr : ∀ o, w2.frozen? ⟨w.heap.size + 1 + 1, o, none⟩ = false := by intro o; rw [hw2]; go_simp
 have fg : ∀ o, w2.frozen? ⟨w.heap.size + 1 + 1 + 1, o, none⟩ = false := by intro o; rw [hw2]; go_simp
 have fx : ∀ o, w2.frozen? ⟨w1.heap.size, o, none⟩ = false := by intro o; rw [hw2]; go_simp
 have hB2 : Below w.heap.size w w2 := by rw [hw2]; exact (by repeat' (first | with_reducible exact Below.refl _ _ | with_reducible assumption | with_reducible refine Below.alloc ?_ ?_ _ | with_reducible refine Below.setCell ?_ ?_ _ | with_reducible refine Below.drew ?_ | with_reducible refine below_drewN ?_ _ | with_reducible refine Below.trans ?_ (Below.mono (by with_reducible assumption) ?_) | omega | (simp <;> omega)))
 have XB := hide (show BoxC w.heap.size (machl m) w2 from box_of7 b0 b1 b2 b3 b4 b5 b6 fb)
 have XA := hide (show BoxC (w.heap.size + 1) [.int .i64 act.op, .int .i64 act.at_, .int .i64 act.old.v, .int .u32 act.old.r, .int .u32 act.old.f, .int .i64 act.new.v, .int .u32 act.new.r, .int .u32 act.new.f] w2 from box_of8 a0 a1 a2 a3 a4 a5 a6 a7 fa)
 have XR := hide (show BoxC (w.heap.size + 1 + 1) machz w2 from box_of7 r0 r1 r2 r3 r4 r5 r6 fr)
 have XG := hide (show BoxC (w.heap.size + 1 + 1 + 1) gotz w2 from box_of4 g0 g1 g2 g3 fg)
 have XX := hide (show BoxC (w1.heap.size) (gotl ⟨0, 0, 0⟩ true) w2 from box_of4 x0 x1 x2 x3 fx)
 have HB2 := hide hB2
 rw [← hw2]
 clear hw2 hcc1 hff1 hb1 hB2 b0 b1 b2 b3 b4 b5 b6 r0 r1 r2 r3 r4 r5 r6 g0 g1 g2 g3 x0 x1 x2 x3 a0 a1 a2 a3 a4 a5 a6 a7 fb fr fg fx fa
 go_cut [] from 23 to 70 (fun wx => DoMid w w1 m E wx)
 case first =>
  have oB := MachV.off_new HR.out (C := w.heap.size) oM
  have oR := MachV.off_new HR.out (C := w.heap.size + 1 + 1) oM
  have oG := MachV.off_new HR.out (C := w.heap.size + 1 + 1 + 1) oM
  have oX := MachV.off_new HR.out (C := w1.heap.size) oM
  have hsz1 : w.heap.size + 1 + 1 + 1 < w1.heap.size := by omega
  have a0 := XA.out.at (j := 0) rfl
  have a1 := XA.out.at (j := 1) rfl
  have a2 := XA.out.at (j := 2) rfl
  have a3 := XA.out.at (j := 3) rfl
  have a4 := XA.out.at (j := 4) rfl
  have a5 := XA.out.at (j := 5) rfl
  have a6 := XA.out.at (j := 6) rfl
  have a7 := XA.out.at (j := 7) rfl
  have fa := XA.out.2.1
  go_upto_if 23 with (go_at_call 49; refine (Hchg.out _).mono ?_; rintro e w9 ⟨rfl, hb9⟩)
  have hs9 := hb9.size
  have HB9 := hide (HB2.out.trans (hb9.mono oM))
  have VB := hide (XB.out.below hb9)
  have VA := hide (XA.out.below hb9)
  have VR := hide (XR.out.below hb9)
  have VG := hide (XG.out.below hb9)
  have VX := hide (XX.out.below hb9)
  have hz94 : w1.heap.size < w9.heap.size := by omega
  clear a0 a1 a2 a3 a4 a5 a6 a7 fa hb9
  have b0 := VB.out.at (j := 0) rfl
  have b1 := VB.out.at (j := 1) rfl
  have b2 := VB.out.at (j := 2) rfl
  have b3 := VB.out.at (j := 3) rfl
  have b4 := VB.out.at (j := 4) rfl
  have b5 := VB.out.at (j := 5) rfl
  have b6 := VB.out.at (j := 6) rfl
  have fb := VB.out.2.1
  have a0 := VA.out.at (j := 0) rfl
  have a1 := VA.out.at (j := 1) rfl
  have a2 := VA.out.at (j := 2) rfl
  have a3 := VA.out.at (j := 3) rfl
  have a4 := VA.out.at (j := 4) rfl
  have a5 := VA.out.at (j := 5) rfl
  have a6 := VA.out.at (j := 6) rfl
  have a7 := VA.out.at (j := 7) rfl
  have fa := VA.out.2.1
  have x0 := VX.out.at (j := 0) rfl
  have x1 := VX.out.at (j := 1) rfl
  have x2 := VX.out.at (j := 2) rfl
  have x3 := VX.out.at (j := 3) rfl
  have fx := VX.out.2.1
  rcases Hk.out with ⟨h0, hE⟩ | ⟨hop, hin⟩ | ⟨hop, hin⟩ | ⟨hop, hin⟩ | ⟨hop, hin⟩
  ·have hb : bc = false := by rw [Hbc.out, h0]; decide
   subst hb
   have HE := hide hE
   rw [h0] at a0
   clear hE h0
   go_wp2_with fail
   go_meet
   exact ⟨m, ⟨0, 0, 0⟩, true, VB.out, VR.out, VG.out, VX.out, HR.out.below HB9.out, HE.out, rfl, ⟨oB, oR, oG, oX⟩, fun _ _ h => h, HB9.out, hz94⟩
  ·have hb : bc = false := by rw [Hbc.out]; rcases hop with h | h | h <;> rw [h] <;> decide
   subst hb
   have k7 : (act.op == 7) = false := by rcases hop with h | h | h <;> rw [h] <;> decide
   have k8 : (act.op == 8) = false := by rcases hop with h | h | h <;> rw [h] <;> decide
   have k0 : (act.op == 0) = false := by rcases hop with h | h | h <;> rw [h] <;> decide
   have k0' : (act.op != 0) = true := by rcases hop with h | h | h <;> rw [h] <;> decide
   have Hin := hide hin
   clear hin hop
   go_wp2_with (first
    | (go_at_call 113; refine (Hin.out _ (HR.out.below (by first | with_reducible exact HB9.out | exact (by repeat' (first | with_reducible exact Below.refl _ _ | with_reducible assumption | with_reducible refine Below.alloc ?_ ?_ _ | with_reducible refine Below.setCell ?_ ?_ _ | with_reducible refine Below.drew ?_ | with_reducible refine below_drewN ?_ _ | with_reducible refine Below.trans ?_ (Below.mono (by with_reducible assumption) ?_) | omega | (simp <;> omega)))))).mono ?_; rintro e w3 ⟨m1, x, ok, rfl, hE1, ⟨he1, he2, he3, he4⟩, hR3, hoff3, hb3⟩; have hs3 := hb3.size; have HE1 := hide hE1; have He3 := hide he3; have HR3 := hide hR3; have Hoff3 := hide hoff3; have Hb3 := hide hb3; have YB := hide (VB.out.below hb3); have YX := hide (VX.out.below hb3); clear hE1 he1 he2 he3 he4 hR3 hoff3 b0 b1 b2 b3 b4 b5 b6 x0 x1 x2 x3 fb fx; have b0 := YB.out.at (j := 0) rfl; have b1 := YB.out.at (j := 1) rfl; have b2 := YB.out.at (j := 2) rfl; have b3 := YB.out.at (j := 3) rfl; have b4 := YB.out.at (j := 4) rfl; have b5 := YB.out.at (j := 5) rfl; have b6 := YB.out.at (j := 6) rfl; have fb := YB.out.2.1; have x0 := YX.out.at (j := 0) rfl; have x1 := YX.out.at (j := 1) rfl; have x2 := YX.out.at (j := 2) rfl; have x3 := YX.out.at (j := 3) rfl; have fx := YX.out.2.1; clear hb3))
   obtain ⟨wA, hwA⟩ : ∃ W : World, W = setFrom (setFrom w3 w.heap.size 0 (machl m1)) w1.heap.size 0 (gotl x ok) := ⟨_, rfl⟩
   have hsA : wA.heap.size = w3.heap.size := by rw [hwA, setFrom_size, setFrom_size]
   have off1 : ∀ C, w.heap.size ≤ C → C < w9.heap.size → m1.off C := fun C h1 h2 => Hoff3.out C h2 (MachV.off_new HR.out h1)
   have hmid : DoMid w w1 m E wA := by
    rw [hwA]
    refine ⟨m1, x, ok, BoxC.farFrom oM _ _ (BoxC.fill YB.out (by simp [machl])), BoxC.farFrom oM _ _ (BoxC.farFrom oM _ _ (VR.out.below Hb3.out)), BoxC.farFrom oM _ _ (BoxC.farFrom oM _ _ (VG.out.below Hb3.out)), BoxC.fill (BoxC.farFrom oM _ _ YX.out) (by simp [gotl]), ?_, HE1.out, He3.out, ⟨off1 _ oM oM, off1 _ oM oM, off1 _ oM oM, off1 _ oM oM⟩, (fun C hC h => Hoff3.out C oM h), below_setFrom oM _ _ (below_setFrom oM _ _ (HB9.out.trans (Hb3.out.mono oM))), by rw [setFrom_size, setFrom_size]; omega⟩
    exact MachV.R.fill (MachV.R.fill HR3.out (off1 _ oM oM) YB.out.some (by simp [machl]) 0 (by simp [machl])) (off1 _ oM oM) (BoxC.farFrom oM _ _ YX.out).some (by simp [gotl]) 0 (by simp [gotl])
   simp only [setFrom, machl, gotl, Nat.zero_add, Nat.reduceAdd] at hwA
   rw [← hwA]
   go_meet
   exact hmid
  ·have hb : bc = true := by rw [Hbc.out]; rcases hop with h | h | h <;> rw [h] <;> decide
   subst hb
   have k7 : (act.op == 7) = false := by rcases hop with h | h | h <;> rw [h] <;> decide
   have k8 : (act.op == 8) = false := by rcases hop with h | h | h <;> rw [h] <;> decide
   have k0 : (act.op == 0) = false := by rcases hop with h | h | h <;> rw [h] <;> decide
   have k0' : (act.op != 0) = true := by rcases hop with h | h | h <;> rw [h] <;> decide
   have Hin := hide hin
   clear hin hop
   go_wp2_with (first
    | (go_at_call 111; refine (Hin.out _ (HR.out.below (by first | with_reducible exact HB9.out | exact (by repeat' (first | with_reducible exact Below.refl _ _ | with_reducible assumption | with_reducible refine Below.alloc ?_ ?_ _ | with_reducible refine Below.setCell ?_ ?_ _ | with_reducible refine Below.drew ?_ | with_reducible refine below_drewN ?_ _ | with_reducible refine Below.trans ?_ (Below.mono (by with_reducible assumption) ?_) | omega | (simp <;> omega)))))).mono ?_; rintro e w3 ⟨m1, x, ok, rfl, hE1, ⟨he1, he2, he3, he4⟩, hR3, hoff3, hb3⟩; have hs3 := hb3.size; have HE1 := hide hE1; have He3 := hide he3; have HR3 := hide hR3; have Hoff3 := hide hoff3; have Hb3 := hide hb3; have YB := hide (VB.out.below hb3); have YX := hide (VX.out.below hb3); clear hE1 he1 he2 he3 he4 hR3 hoff3 b0 b1 b2 b3 b4 b5 b6 x0 x1 x2 x3 fb fx; have b0 := YB.out.at (j := 0) rfl; have b1 := YB.out.at (j := 1) rfl; have b2 := YB.out.at (j := 2) rfl; have b3 := YB.out.at (j := 3) rfl; have b4 := YB.out.at (j := 4) rfl; have b5 := YB.out.at (j := 5) rfl; have b6 := YB.out.at (j := 6) rfl; have fb := YB.out.2.1; have x0 := YX.out.at (j := 0) rfl; have x1 := YX.out.at (j := 1) rfl; have x2 := YX.out.at (j := 2) rfl; have x3 := YX.out.at (j := 3) rfl; have fx := YX.out.2.1; clear hb3))
   obtain ⟨wA, hwA⟩ : ∃ W : World, W = setFrom (setFrom w3 w.heap.size 0 (machl m1)) w1.heap.size 0 (gotl x ok) := ⟨_, rfl⟩
   have hsA : wA.heap.size = w3.heap.size := by rw [hwA, setFrom_size, setFrom_size]
   have off1 : ∀ C, w.heap.size ≤ C → C < w9.heap.size → m1.off C := fun C h1 h2 => Hoff3.out C h2 (MachV.off_new HR.out h1)
   have hmid : DoMid w w1 m E wA := by
    rw [hwA]
    refine ⟨m1, x, ok, BoxC.farFrom oM _ _ (BoxC.fill YB.out (by simp [machl])), BoxC.farFrom oM _ _ (BoxC.farFrom oM _ _ (VR.out.below Hb3.out)), BoxC.farFrom oM _ _ (BoxC.farFrom oM _ _ (VG.out.below Hb3.out)), BoxC.fill (BoxC.farFrom oM _ _ YX.out) (by simp [gotl]), ?_, HE1.out, He3.out, ⟨off1 _ oM oM, off1 _ oM oM, off1 _ oM oM, off1 _ oM oM⟩, (fun C hC h => Hoff3.out C oM h), below_setFrom oM _ _ (below_setFrom oM _ _ (HB9.out.trans (Hb3.out.mono oM))), by rw [setFrom_size, setFrom_size]; omega⟩
    exact MachV.R.fill (MachV.R.fill HR3.out (off1 _ oM oM) YB.out.some (by simp [machl]) 0 (by simp [machl])) (off1 _ oM oM) (BoxC.farFrom oM _ _ YX.out).some (by simp [gotl]) 0 (by simp [gotl])
   simp only [setFrom, machl, gotl, Nat.zero_add, Nat.reduceAdd] at hwA
   rw [← hwA]
   go_meet
   exact hmid
  ·have hb : bc = false := by rw [Hbc.out, hop]; decide
   subst hb
   rw [hop] at a0
   have Hin := hide hin
   clear hin hop
   go_wp2_with (first
    | (go_at_call 112; refine (Hin.out _ (HR.out.below (by first | with_reducible exact HB9.out | exact (by repeat' (first | with_reducible exact Below.refl _ _ | with_reducible assumption | with_reducible refine Below.alloc ?_ ?_ _ | with_reducible refine Below.setCell ?_ ?_ _ | with_reducible refine Below.drew ?_ | with_reducible refine below_drewN ?_ _ | with_reducible refine Below.trans ?_ (Below.mono (by with_reducible assumption) ?_) | omega | (simp <;> omega)))))).mono ?_; rintro e w3 ⟨ln1, ak1, rfl, hE1, hR3, hoff3, hb3⟩; have hs3 := hb3.size; have HE1 := hide hE1; have HR3 := hide hR3; have Hoff3 := hide hoff3; have Hb3 := hide hb3; have YB := hide (VB.out.below hb3); clear hE1 hR3 hoff3 b0 b1 b2 b3 b4 b5 b6 fb; have b0 := YB.out.at (j := 0) rfl; have b1 := YB.out.at (j := 1) rfl; have b2 := YB.out.at (j := 2) rfl; have b3 := YB.out.at (j := 3) rfl; have b4 := YB.out.at (j := 4) rfl; have b5 := YB.out.at (j := 5) rfl; have b6 := YB.out.at (j := 6) rfl; have fb := YB.out.2.1; clear hb3))
   obtain ⟨wA, hwA⟩ : ∃ W : World, W = setFrom w3 w.heap.size 2 [.slice ln1.fA ln1.first.length ln1.fc, .slice ln1.lA ln1.logs.length ln1.lc, .map ln1.asks] := ⟨_, rfl⟩
   have hsA : wA.heap.size = w3.heap.size := by rw [hwA, setFrom_size]
   have off1 : ∀ C, w.heap.size ≤ C → C < w9.heap.size → MachV.off C ⟨m.mem, ln1, m.sA, m.sc, m.steps, m.crashes, ak1⟩ := fun C h1 h2 => Hoff3.out C h2 (MachV.off_new HR.out h1)
   have hmid : DoMid w w1 m E wA := by
    rw [hwA]
    refine ⟨⟨m.mem, ln1, m.sA, m.sc, m.steps, m.crashes, ak1⟩, ⟨0, 0, 0⟩, true, box_set2 YB.out, BoxC.farFrom oM _ _ (VR.out.below Hb3.out), BoxC.farFrom oM _ _ (VG.out.below Hb3.out), BoxC.farFrom oM _ _ (VX.out.below Hb3.out), ?_, HE1.out, rfl, ⟨off1 _ oM oM, off1 _ oM oM, off1 _ oM oM, off1 _ oM oM⟩, (fun C hC h => Hoff3.out C oM h), below_setFrom oM _ _ (HB9.out.trans (Hb3.out.mono oM)), by rw [setFrom_size]; omega⟩
    exact MachV.R.fill HR3.out (off1 _ oM oM) YB.out.some (by simp [machl]) 2 (by simp [machl])
   simp only [setFrom, Nat.reduceAdd] at hwA
   rw [← hwA]
   go_meet
   exact hmid
  ·have hb : bc = false := by rw [Hbc.out, hop]; decide
   subst hb
   rw [hop] at a0
   have Hin := hide hin
   clear hin hop
   go_wp2_with (first
    | (go_at_call 82; refine (Hin.out _ (HR.out.below (by first | with_reducible exact HB9.out | exact (by repeat' (first | with_reducible exact Below.refl _ _ | with_reducible assumption | with_reducible refine Below.alloc ?_ ?_ _ | with_reducible refine Below.setCell ?_ ?_ _ | with_reducible refine Below.drew ?_ | with_reducible refine below_drewN ?_ _ | with_reducible refine Below.trans ?_ (Below.mono (by with_reducible assumption) ?_) | omega | (simp <;> omega)))))).mono ?_; rintro e w3 ⟨ln1, ak1, rfl, hE1, hR3, hoff3, hb3⟩; have hs3 := hb3.size; have HE1 := hide hE1; have HR3 := hide hR3; have Hoff3 := hide hoff3; have Hb3 := hide hb3; have YB := hide (VB.out.below hb3); clear hE1 hR3 hoff3 b0 b1 b2 b3 b4 b5 b6 fb; have b0 := YB.out.at (j := 0) rfl; have b1 := YB.out.at (j := 1) rfl; have b2 := YB.out.at (j := 2) rfl; have b3 := YB.out.at (j := 3) rfl; have b4 := YB.out.at (j := 4) rfl; have b5 := YB.out.at (j := 5) rfl; have b6 := YB.out.at (j := 6) rfl; have fb := YB.out.2.1; clear hb3))
   obtain ⟨wA, hwA⟩ : ∃ W : World, W = setFrom w3 w.heap.size 2 [.slice ln1.fA ln1.first.length ln1.fc, .slice ln1.lA ln1.logs.length ln1.lc, .map ln1.asks] := ⟨_, rfl⟩
   have hsA : wA.heap.size = w3.heap.size := by rw [hwA, setFrom_size]
   have off1 : ∀ C, w.heap.size ≤ C → C < w9.heap.size → MachV.off C ⟨m.mem, ln1, m.sA, m.sc, m.steps, m.crashes, ak1⟩ := fun C h1 h2 => Hoff3.out C h2 (MachV.off_new HR.out h1)
   have hmid : DoMid w w1 m E wA := by
    rw [hwA]
    refine ⟨⟨m.mem, ln1, m.sA, m.sc, m.steps, m.crashes, ak1⟩, ⟨0, 0, 0⟩, true, box_set2 YB.out, BoxC.farFrom oM _ _ (VR.out.below Hb3.out), BoxC.farFrom oM _ _ (VG.out.below Hb3.out), BoxC.farFrom oM _ _ (VX.out.below Hb3.out), ?_, HE1.out, rfl, ⟨off1 _ oM oM, off1 _ oM oM, off1 _ oM oM, off1 _ oM oM⟩, (fun C hC h => Hoff3.out C oM h), below_setFrom oM _ _ (HB9.out.trans (Hb3.out.mono oM)), by rw [setFrom_size]; omega⟩
    exact MachV.R.fill HR3.out (off1 _ oM oM) YB.out.some (by simp [machl]) 2 (by simp [machl])
   simp only [setFrom, Nat.reduceAdd] at hwA
   rw [← hwA]
   go_meet
   exact hmid
 case rest =>
  obtain ⟨m1, x, ok, ZB, ZR, ZG, ZX, hR3, hE, hst, ⟨oB, oR, oG, oX⟩, hoff, hBA, hszc⟩ := hcut
  have ab0 := ZB.at (j := 0) rfl
  have ab1 := ZB.at (j := 1) rfl
  have ab2 := ZB.at (j := 2) rfl
  have ab3 := ZB.at (j := 3) rfl
  have ab4 := ZB.at (j := 4) rfl
  have ab5 := ZB.at (j := 5) rfl
  have ab6 := ZB.at (j := 6) rfl
  have afb := ZB.2.1
  have azb := ZB.2.2
  have ar0 := ZR.at (j := 0) rfl
  have ar1 := ZR.at (j := 1) rfl
  have ar2 := ZR.at (j := 2) rfl
  have ar3 := ZR.at (j := 3) rfl
  have ar4 := ZR.at (j := 4) rfl
  have ar5 := ZR.at (j := 5) rfl
  have ar6 := ZR.at (j := 6) rfl
  have afr := ZR.2.1
  have azr := ZR.2.2
  have ag0 := ZG.at (j := 0) rfl
  have ag1 := ZG.at (j := 1) rfl
  have ag2 := ZG.at (j := 2) rfl
  have ag3 := ZG.at (j := 3) rfl
  have afg := ZG.2.1
  have azg := ZG.2.2
  have ax0 := ZX.at (j := 0) rfl
  have ax1 := ZX.at (j := 1) rfl
  have ax2 := ZX.at (j := 2) rfl
  have ax3 := ZX.at (j := 3) rfl
  have azx := ZX.2.2
  have HRA := hide hR3
  have aoB := oB
  have aoR := oR
  have aoG := oG
  have aoff := hide hoff
  have aE := hide hE
  have HS1 : Hid (m1.steps[t]? = some s) := hide (by rw [hst]; exact HS.out)
  have hts1 : t < m1.steps.length := by rw [hst]; exact hts
  have hl6 : m1.steps.length ≤ 1000 := by rw [hst]; exact hs6
  clear ZB ZR ZG ZX hR3 hE hst oX oB oR oG hoff XB XA XR XG XX Hk
  have hcl := clone_I m1.sA m1.steps.length m1.sc (m1.steps.map (Value.int .i64)) wc HRA.out.2.2.2.2.1 HRA.out.2.2.2.1 (ones_int _) oM
  have Hcl := hide hcl
  clear hcl
  go_upto_region 14 with (first
   | (go_at_call 63; refine Hcl.out.mono ?_; rintro e wB ⟨A', sc', rfl, how, hbB⟩; obtain ⟨gs, sc2, hA1, hsc, hgs, hrs⟩ := own_some how oM; injection hA1 with hA1 _ hA2; subst hA1 hA2; have Hcs := hide (own_cells how).1; have hfs := (own_cells how).2; have Hrs := hide hrs; clear how hrs; have hsB := hbB.size; have qb0 := (hbB.cell (p := ⟨w.heap.size, 0, none⟩) azb).trans ab0; have qb1 := (hbB.cell (p := ⟨w.heap.size, 1, none⟩) azb).trans ab1; have qb2 := (hbB.cell (p := ⟨w.heap.size, 2, none⟩) azb).trans ab2; have qb3 := (hbB.cell (p := ⟨w.heap.size, 3, none⟩) azb).trans ab3; have qb4 := (hbB.cell (p := ⟨w.heap.size, 4, none⟩) azb).trans ab4; have qb5 := (hbB.cell (p := ⟨w.heap.size, 5, none⟩) azb).trans ab5; have qb6 := (hbB.cell (p := ⟨w.heap.size, 6, none⟩) azb).trans ab6; have qr0 := (hbB.cell (p := ⟨w.heap.size + 1 + 1, 0, none⟩) azr).trans ar0; have qr1 := (hbB.cell (p := ⟨w.heap.size + 1 + 1, 1, none⟩) azr).trans ar1; have qr2 := (hbB.cell (p := ⟨w.heap.size + 1 + 1, 2, none⟩) azr).trans ar2; have qr3 := (hbB.cell (p := ⟨w.heap.size + 1 + 1, 3, none⟩) azr).trans ar3; have qr4 := (hbB.cell (p := ⟨w.heap.size + 1 + 1, 4, none⟩) azr).trans ar4; have qr5 := (hbB.cell (p := ⟨w.heap.size + 1 + 1, 5, none⟩) azr).trans ar5; have qr6 := (hbB.cell (p := ⟨w.heap.size + 1 + 1, 6, none⟩) azr).trans ar6; have qg0 := (hbB.cell (p := ⟨w.heap.size + 1 + 1 + 1, 0, none⟩) azg).trans ag0; have qg1 := (hbB.cell (p := ⟨w.heap.size + 1 + 1 + 1, 1, none⟩) azg).trans ag1; have qg2 := (hbB.cell (p := ⟨w.heap.size + 1 + 1 + 1, 2, none⟩) azg).trans ag2; have qg3 := (hbB.cell (p := ⟨w.heap.size + 1 + 1 + 1, 3, none⟩) azg).trans ag3; have qx0 := (hbB.cell (p := ⟨w1.heap.size, 0, none⟩) azx).trans ax0; have qx1 := (hbB.cell (p := ⟨w1.heap.size, 1, none⟩) azx).trans ax1; have qx2 := (hbB.cell (p := ⟨w1.heap.size, 2, none⟩) azx).trans ax2; have qx3 := (hbB.cell (p := ⟨w1.heap.size, 3, none⟩) azx).trans ax3; have qfb : ∀ o, wB.frozen? ⟨w.heap.size, o, none⟩ = false := (fun o => (hbB.frozen (p := ⟨w.heap.size, o, none⟩) azb).trans (afb o)); have qfr : ∀ o, wB.frozen? ⟨w.heap.size + 1 + 1, o, none⟩ = false := (fun o => (hbB.frozen (p := ⟨w.heap.size + 1 + 1, o, none⟩) azr).trans (afr o)); have qfg : ∀ o, wB.frozen? ⟨w.heap.size + 1 + 1 + 1, o, none⟩ = false := (fun o => (hbB.frozen (p := ⟨w.heap.size + 1 + 1 + 1, o, none⟩) azg).trans (afg o)); clear ab0 ab1 ab2 ab3 ab4 ab5 ab6 ar0 ar1 ar2 ar3 ar4 ar5 ar6 ag0 ag1 ag2 ag3 ax0 ax1 ax2 ax3 afb afr afg))
  have ng0 : ¬ w.heap.size = gs := by omega
  have ng2 : ¬ w.heap.size + 1 + 1 = gs := by omega
  have ng3 : ¬ w.heap.size + 1 + 1 + 1 = gs := by omega
  have ng4 : ¬ w1.heap.size = gs := by omega
  have ks := Hcs.out t (.int .i64 s) (by rw [List.getElem?_map, HS1.out]; rfl)
  obtain ⟨wC, hwC⟩ : ∃ W : World, W = (wB.setCell ⟨w.heap.size, 5, none⟩ (.slice (some ⟨gs, 0, none⟩) m1.steps.length sc')) := ⟨_, rfl⟩
  have hsC : wC.heap.size = wB.heap.size := by rw [hwC]; simp
  have kc : wC.cell? ⟨gs, t, none⟩ = some (.int .i64 s) := by rw [hwC]; go_simp
  have kfs : ∀ o, wC.frozen? ⟨gs, o, none⟩ = false := by intro o; rw [hwC]; go_simp
  have kb0 : wC.cell? ⟨w.heap.size, 0, none⟩ = some (.slice m1.mem.pA m1.mem.hs.length m1.mem.pc) := by rw [hwC]; go_simp
  have kb1 : wC.cell? ⟨w.heap.size, 1, none⟩ = some (.slice m1.mem.vA m1.mem.vs.length m1.mem.vc) := by rw [hwC]; go_simp
  have kb2 : wC.cell? ⟨w.heap.size, 2, none⟩ = some (.slice m1.ln.fA m1.ln.first.length m1.ln.fc) := by rw [hwC]; go_simp
  have kb3 : wC.cell? ⟨w.heap.size, 3, none⟩ = some (.slice m1.ln.lA m1.ln.logs.length m1.ln.lc) := by rw [hwC]; go_simp
  have kb4 : wC.cell? ⟨w.heap.size, 4, none⟩ = some (.map m1.ln.asks) := by rw [hwC]; go_simp
  have kb5 : wC.cell? ⟨w.heap.size, 5, none⟩ = some (.slice (some ⟨gs, 0, none⟩) m1.steps.length sc') := by rw [hwC]; go_simp
  have kb6 : wC.cell? ⟨w.heap.size, 6, none⟩ = some (.int .i64 m1.crashes) := by rw [hwC]; go_simp
  have kr0 : wC.cell? ⟨w.heap.size + 1 + 1, 0, none⟩ = some (.slice none 0 0) := by rw [hwC]; go_simp
  have kr1 : wC.cell? ⟨w.heap.size + 1 + 1, 1, none⟩ = some (.slice none 0 0) := by rw [hwC]; go_simp
  have kr2 : wC.cell? ⟨w.heap.size + 1 + 1, 2, none⟩ = some (.slice none 0 0) := by rw [hwC]; go_simp
  have kr3 : wC.cell? ⟨w.heap.size + 1 + 1, 3, none⟩ = some (.slice none 0 0) := by rw [hwC]; go_simp
  have kr4 : wC.cell? ⟨w.heap.size + 1 + 1, 4, none⟩ = some (.map none) := by rw [hwC]; go_simp
  have kr5 : wC.cell? ⟨w.heap.size + 1 + 1, 5, none⟩ = some (.slice none 0 0) := by rw [hwC]; go_simp
  have kr6 : wC.cell? ⟨w.heap.size + 1 + 1, 6, none⟩ = some (.int .i64 0) := by rw [hwC]; go_simp
  have kg0 : wC.cell? ⟨w.heap.size + 1 + 1 + 1, 0, none⟩ = some (.int .i64 0) := by rw [hwC]; go_simp
  have kg1 : wC.cell? ⟨w.heap.size + 1 + 1 + 1, 1, none⟩ = some (.int .u32 0) := by rw [hwC]; go_simp
  have kg2 : wC.cell? ⟨w.heap.size + 1 + 1 + 1, 2, none⟩ = some (.int .u32 0) := by rw [hwC]; go_simp
  have kg3 : wC.cell? ⟨w.heap.size + 1 + 1 + 1, 3, none⟩ = some (.bool false) := by rw [hwC]; go_simp
  have kx0 : wC.cell? ⟨w1.heap.size, 0, none⟩ = some (.int .i64 x.v) := by rw [hwC]; go_simp
  have kx1 : wC.cell? ⟨w1.heap.size, 1, none⟩ = some (.int .u32 x.r) := by rw [hwC]; go_simp
  have kx2 : wC.cell? ⟨w1.heap.size, 2, none⟩ = some (.int .u32 x.f) := by rw [hwC]; go_simp
  have kx3 : wC.cell? ⟨w1.heap.size, 3, none⟩ = some (.bool ok) := by rw [hwC]; go_simp
  have kfr : ∀ o, wC.frozen? ⟨w.heap.size + 1 + 1, o, none⟩ = false := by intro o; rw [hwC]; go_simp
  have kfg : ∀ o, wC.frozen? ⟨w.heap.size + 1 + 1 + 1, o, none⟩ = false := by intro o; rw [hwC]; go_simp
  have HRC : Hid (MachV.R wC m1) := hide (by rw [hwC]; exact MachV.R.set (HRA.out.below hbB) aoB (.of qb5) _)
  have HrsC := hide (show Rd wC wC.heap.size 1 (some ⟨gs, 0, none⟩) m1.steps.length (m1.steps.map (Value.int .i64)) by rw [hwC]; exact Rd.more (Rd.set_off Hrs.out (OffC.at (fun e => ng0 e.symm)) _) sM)
  have hBC : Below w.heap.size w wC := by rw [hwC]; exact (hBA.trans (hbB.mono oM)).setCell (p := ⟨w.heap.size, 5, none⟩) (Nat.le_refl _) _
  rw [← hwC]
  clear hwC ks Hcs Hrs hfs qb0 qb1 qb2 qb3 qb4 qb5 qb6 qr0 qr1 qr2 qr3 qr4 qr5 qr6 qg0 qg1 qg2 qg3 qx0 qx1 qx2 qx3 qfb qfr qfg
  have hw1 : IntKind.i64.wrap ((t : Int) + 1 - 1) = (t : Int) := by rw [show (t : Int) + 1 - 1 = (t : Int) by omega]; exact IntWalk.i64_in _ oM
  have hw2 : IntKind.i64.wrap (t : Int) = (t : Int) := IntWalk.i64_in _ oM
  have j0 : (0 : Int) ≤ (t : Int) := by omega
  have j1 : (t : Int) < (m1.steps.length : Int) := by omega
  have HsC := hide hsC
  clear hsC
  go_wp2_with fail
  clear hw1 hw2
  obtain ⟨wD, hwD⟩ : ∃ W : World, W = (wC.setCell ⟨gs, t, none⟩ (.int .i64 (wrap64 (s + 1)))) := ⟨_, rfl⟩
  have hsD : wD.heap.size = wB.heap.size := by rw [hwD]; simp [HsC.out]
  have ng0' : ¬ gs = w.heap.size := by omega
  have ng2' : ¬ gs = w.heap.size + 1 + 1 := by omega
  have ng3' : ¬ gs = w.heap.size + 1 + 1 + 1 := by omega
  have ng4' : ¬ gs = w1.heap.size := by omega
  have ub0 : wD.cell? ⟨w.heap.size, 0, none⟩ = some (.slice m1.mem.pA m1.mem.hs.length m1.mem.pc) := by rw [hwD]; go_simp
  have ub1 : wD.cell? ⟨w.heap.size, 1, none⟩ = some (.slice m1.mem.vA m1.mem.vs.length m1.mem.vc) := by rw [hwD]; go_simp
  have ub2 : wD.cell? ⟨w.heap.size, 2, none⟩ = some (.slice m1.ln.fA m1.ln.first.length m1.ln.fc) := by rw [hwD]; go_simp
  have ub3 : wD.cell? ⟨w.heap.size, 3, none⟩ = some (.slice m1.ln.lA m1.ln.logs.length m1.ln.lc) := by rw [hwD]; go_simp
  have ub4 : wD.cell? ⟨w.heap.size, 4, none⟩ = some (.map m1.ln.asks) := by rw [hwD]; go_simp
  have ub5 : wD.cell? ⟨w.heap.size, 5, none⟩ = some (.slice (some ⟨gs, 0, none⟩) m1.steps.length sc') := by rw [hwD]; go_simp
  have ub6 : wD.cell? ⟨w.heap.size, 6, none⟩ = some (.int .i64 m1.crashes) := by rw [hwD]; go_simp
  have ur0 : wD.cell? ⟨w.heap.size + 1 + 1, 0, none⟩ = some (.slice none 0 0) := by rw [hwD]; go_simp
  have ur1 : wD.cell? ⟨w.heap.size + 1 + 1, 1, none⟩ = some (.slice none 0 0) := by rw [hwD]; go_simp
  have ur2 : wD.cell? ⟨w.heap.size + 1 + 1, 2, none⟩ = some (.slice none 0 0) := by rw [hwD]; go_simp
  have ur3 : wD.cell? ⟨w.heap.size + 1 + 1, 3, none⟩ = some (.slice none 0 0) := by rw [hwD]; go_simp
  have ur4 : wD.cell? ⟨w.heap.size + 1 + 1, 4, none⟩ = some (.map none) := by rw [hwD]; go_simp
  have ur5 : wD.cell? ⟨w.heap.size + 1 + 1, 5, none⟩ = some (.slice none 0 0) := by rw [hwD]; go_simp
  have ur6 : wD.cell? ⟨w.heap.size + 1 + 1, 6, none⟩ = some (.int .i64 0) := by rw [hwD]; go_simp
  have ug0 : wD.cell? ⟨w.heap.size + 1 + 1 + 1, 0, none⟩ = some (.int .i64 0) := by rw [hwD]; go_simp
  have ug1 : wD.cell? ⟨w.heap.size + 1 + 1 + 1, 1, none⟩ = some (.int .u32 0) := by rw [hwD]; go_simp
  have ug2 : wD.cell? ⟨w.heap.size + 1 + 1 + 1, 2, none⟩ = some (.int .u32 0) := by rw [hwD]; go_simp
  have ug3 : wD.cell? ⟨w.heap.size + 1 + 1 + 1, 3, none⟩ = some (.bool false) := by rw [hwD]; go_simp
  have ux0 : wD.cell? ⟨w1.heap.size, 0, none⟩ = some (.int .i64 x.v) := by rw [hwD]; go_simp
  have ux1 : wD.cell? ⟨w1.heap.size, 1, none⟩ = some (.int .u32 x.r) := by rw [hwD]; go_simp
  have ux2 : wD.cell? ⟨w1.heap.size, 2, none⟩ = some (.int .u32 x.f) := by rw [hwD]; go_simp
  have ux3 : wD.cell? ⟨w1.heap.size, 3, none⟩ = some (.bool ok) := by rw [hwD]; go_simp
  have ufr : ∀ o, wD.frozen? ⟨w.heap.size + 1 + 1, o, none⟩ = false := by intro o; rw [hwD]; go_simp
  have ufg : ∀ o, wD.frozen? ⟨w.heap.size + 1 + 1 + 1, o, none⟩ = false := by intro o; rw [hwD]; go_simp
  have hRD : MachV.R wD m1 := by rw [hwD]; exact MachV.R.set HRC.out (MachV.off_new HRA.out oM) (.of kc) _
  have hrD : Rd wD wD.heap.size 1 (some ⟨gs, 0, none⟩) m1.steps.length ((m1.steps.set t (wrap64 (s + 1))).map (Value.int .i64)) := by
   rw [hwD, List.map_set]
   have h := Rd.setAt HrsC.out (i := t) (by rw [List.length_map]; omega) (.int .i64 (wrap64 (s + 1)))
   rw [Nat.zero_add] at h
   exact Rd.more h sM
  have HM2 : Hid (MachV.R wD (m1.stepped gs sc' t (wrap64 (s + 1)))) := hide ⟨hRD.1, hRD.2.1, (by show (m1.steps.set t _).length ≤ sc'; rw [List.length_set]; exact hsc), (fun e => by cases e), (by show Rd wD wD.heap.size 1 (some ⟨gs, 0, none⟩) (m1.steps.set t _).length _; rw [List.length_set]; exact hrD), hRD.2.2.2.2.2⟩
  have hBD : Below w.heap.size w wD := by rw [hwD]; exact hBC.setCell (p := ⟨gs, t, none⟩) (by show w.heap.size ≤ gs; omega) _
  have oR2 : MachV.off (w.heap.size + 1 + 1) (m1.stepped gs sc' t (wrap64 (s + 1))) := ⟨aoR.1, aoR.2.1, OffC.at oM, aoR.2.2.2⟩
  have oG2 : MachV.off (w.heap.size + 1 + 1 + 1) (m1.stepped gs sc' t (wrap64 (s + 1))) := ⟨aoG.1, aoG.2.1, OffC.at oM, aoG.2.2.2⟩
  rw [← hwD]
  clear hwD kc kfs hRD hrD hsD kb0 kb1 kb2 kb3 kb4 kb5 kb6 kr0 kr1 kr2 kr3 kr4 kr5 kr6 kg0 kg1 kg2 kg3 kx0 kx1 kx2 kx3 kfr kfg
  refine wp_region_held_drew (S := (fun w' => (w'.cell? ⟨w.heap.size, 0, none⟩ = some (.slice m1.mem.pA m1.mem.hs.length m1.mem.pc) ∧ w'.cell? ⟨w.heap.size, 1, none⟩ = some (.slice m1.mem.vA m1.mem.vs.length m1.mem.vc) ∧ w'.cell? ⟨w.heap.size, 2, none⟩ = some (.slice m1.ln.fA m1.ln.first.length m1.ln.fc) ∧ w'.cell? ⟨w.heap.size, 3, none⟩ = some (.slice m1.ln.lA m1.ln.logs.length m1.ln.lc) ∧ w'.cell? ⟨w.heap.size, 4, none⟩ = some (.map m1.ln.asks) ∧ w'.cell? ⟨w.heap.size, 5, none⟩ = some (.slice (some ⟨gs, 0, none⟩) m1.steps.length sc') ∧ w'.cell? ⟨w.heap.size, 6, none⟩ = some (.int .i64 m1.crashes)) ∧ (w'.cell? ⟨w1.heap.size, 0, none⟩ = some (.int .i64 x.v) ∧ w'.cell? ⟨w1.heap.size, 1, none⟩ = some (.int .u32 x.r) ∧ w'.cell? ⟨w1.heap.size, 2, none⟩ = some (.int .u32 x.f) ∧ w'.cell? ⟨w1.heap.size, 3, none⟩ = some (.bool ok)))) kR (by first | with_reducible exact ⟨⟨ub0, ub1, ub2, ub3, ub4, ub5, ub6⟩, ux0, ux1, ux2, ux3⟩ | exact ⟨⟨by go_simp, by go_simp, by go_simp, by go_simp, by go_simp, by go_simp, by go_simp⟩, by go_simp, by go_simp, by go_simp, by go_simp⟩) (fun hHeld => ?_)
  refine tq1 0 ?_
  refine tq1 1 ?_
  refine wE 2 fun K hK => ?_
  go_simp
  go_wp2_with fail
  refine oK hK (by first | with_reducible exact ⟨⟨ub0, ub1, ub2, ub3, ub4, ub5, ub6⟩, ux0, ux1, ux2, ux3⟩ | exact ⟨⟨by go_simp, by go_simp, by go_simp, by go_simp, by go_simp, by go_simp, by go_simp⟩, by go_simp, by go_simp, by go_simp, by go_simp⟩) fun hHeld => ?_
  clear hK K
  refine wE 3 fun K hK => ?_
  go_simp
  go_wp2_with fail
  refine oK hK (by first | with_reducible exact ⟨⟨ub0, ub1, ub2, ub3, ub4, ub5, ub6⟩, ux0, ux1, ux2, ux3⟩ | exact ⟨⟨by go_simp, by go_simp, by go_simp, by go_simp, by go_simp, by go_simp, by go_simp⟩, by go_simp, by go_simp, by go_simp, by go_simp⟩) fun hHeld => ?_
  clear hK K
  refine tq1 4 ?_
  refine Go.Proofs.YtnnmenmifphadaaGreatDoor.wD ?_
  all_goals go_wp2_with fail
  all_goals have HZ := hide (MachV.R.set (MachV.R.set (MachV.R.set (MachV.R.set (MachV.R.set (MachV.R.set (MachV.R.set (MachV.R.set (MachV.R.set (MachV.R.set (MachV.R.set HM2.out oR2 (.of ur0) (.slice m1.mem.pA m1.mem.hs.length m1.mem.pc)) oR2 (.set (.of ur1) _) (.slice m1.mem.vA m1.mem.vs.length m1.mem.vc)) oR2 (.set (.set (.of ur2) _) _) (.slice m1.ln.fA m1.ln.first.length m1.ln.fc)) oR2 (.set (.set (.set (.of ur3) _) _) _) (.slice m1.ln.lA m1.ln.logs.length m1.ln.lc)) oR2 (.set (.set (.set (.set (.of ur4) _) _) _) _) (.map m1.ln.asks)) oR2 (.set (.set (.set (.set (.set (.of ur5) _) _) _) _) _) (.slice (some ⟨gs, 0, none⟩) m1.steps.length sc')) oR2 (.set (.set (.set (.set (.set (.set (.of ur6) _) _) _) _) _) _) (.int .i64 m1.crashes)) oG2 (.set (.set (.set (.set (.set (.set (.set (.of ug0) _) _) _) _) _) _) _) (.int .i64 x.v)) oG2 (.set (.set (.set (.set (.set (.set (.set (.set (.of ug1) _) _) _) _) _) _) _) _) (.int .u32 x.r)) oG2 (.set (.set (.set (.set (.set (.set (.set (.set (.set (.of ug2) _) _) _) _) _) _) _) _) _) (.int .u32 x.f)) oG2 (.set (.set (.set (.set (.set (.set (.set (.set (.set (.set (.of ug3) _) _) _) _) _) _) _) _) _) _) (.bool ok))
  all_goals have HB := hide (Below.setCell (Below.setCell (Below.setCell (Below.setCell (Below.setCell (Below.setCell (Below.setCell (Below.setCell (Below.setCell (Below.setCell (Below.setCell hBD (p := ⟨w.heap.size + 1 + 1, 0, none⟩) (by show w.heap.size ≤ w.heap.size + 1 + 1; omega) (.slice m1.mem.pA m1.mem.hs.length m1.mem.pc)) (p := ⟨w.heap.size + 1 + 1, 1, none⟩) (by show w.heap.size ≤ w.heap.size + 1 + 1; omega) (.slice m1.mem.vA m1.mem.vs.length m1.mem.vc)) (p := ⟨w.heap.size + 1 + 1, 2, none⟩) (by show w.heap.size ≤ w.heap.size + 1 + 1; omega) (.slice m1.ln.fA m1.ln.first.length m1.ln.fc)) (p := ⟨w.heap.size + 1 + 1, 3, none⟩) (by show w.heap.size ≤ w.heap.size + 1 + 1; omega) (.slice m1.ln.lA m1.ln.logs.length m1.ln.lc)) (p := ⟨w.heap.size + 1 + 1, 4, none⟩) (by show w.heap.size ≤ w.heap.size + 1 + 1; omega) (.map m1.ln.asks)) (p := ⟨w.heap.size + 1 + 1, 5, none⟩) (by show w.heap.size ≤ w.heap.size + 1 + 1; omega) (.slice (some ⟨gs, 0, none⟩) m1.steps.length sc')) (p := ⟨w.heap.size + 1 + 1, 6, none⟩) (by show w.heap.size ≤ w.heap.size + 1 + 1; omega) (.int .i64 m1.crashes)) (p := ⟨w.heap.size + 1 + 1 + 1, 0, none⟩) (by show w.heap.size ≤ w.heap.size + 1 + 1 + 1; omega) (.int .i64 x.v)) (p := ⟨w.heap.size + 1 + 1 + 1, 1, none⟩) (by show w.heap.size ≤ w.heap.size + 1 + 1 + 1; omega) (.int .u32 x.r)) (p := ⟨w.heap.size + 1 + 1 + 1, 2, none⟩) (by show w.heap.size ≤ w.heap.size + 1 + 1 + 1; omega) (.int .u32 x.f)) (p := ⟨w.heap.size + 1 + 1 + 1, 3, none⟩) (by show w.heap.size ≤ w.heap.size + 1 + 1 + 1; omega) (.bool ok))
  all_goals have hLs : (m1.steps.set t (wrap64 (s + 1))).length = m1.steps.length := List.length_set
  all_goals refine bodyPost_ret (v := .tuple #[.agg #[.slice m1.mem.pA m1.mem.hs.length m1.mem.pc, .slice m1.mem.vA m1.mem.vs.length m1.mem.vc, .slice m1.ln.fA m1.ln.first.length m1.ln.fc, .slice m1.ln.lA m1.ln.logs.length m1.ln.lc, .map m1.ln.asks, .slice (some ⟨gs, 0, none⟩) m1.steps.length sc', .int .i64 m1.crashes], .agg #[.int .i64 x.v, .int .u32 x.r, .int .u32 x.f, .bool ok], .int .i64 0]) (by simp [results, Tryz.results65, go_sem]; (try go_simp)) rfl ⟨m1, x, ok, gs, sc', (by simp only [maV, MachV.stepped, hLs]), aE.out, ?_, (fun C hC hm => ⟨(aoff.out C hC hm).1, (aoff.out C hC hm).2.1, OffC.at oM, (aoff.out C hC hm).2.2.2⟩), ?_⟩
  all_goals first
   | with_reducible exact HZ.out
   | with_reducible exact HZ.out.drew
   | with_reducible exact HB.out
   | with_reducible exact HB.out.drew
def badE (a : ActV) : Int := if a.op < 0 ∨ 8 < a.op then 2 else 1
theorem badE_ne (a : ActV) : badE a ≠ 0 := by unfold badE; split <;> decide
theorem mach_check_bad (m : MachV) (t : Nat) (a : ActV) (w : World) (ht : t < m.mem.vs.length) (hb : ¬ a.good m.mem.hs.length) :
  Calls Tryz.prog 110 #[(maV m), .int .i64 ((t : Int) + 1), (avV a)] w (Ret (.int .i64 (badE a)) w) := by
 have hsz := fun W => mach_size m W
 have Hsz := hide hsz
 have g1 : ¬ ((t : Int) + 1 < 1) := by omega
 have g2 : ¬ ((t : Int) + 1 > (m.mem.vs.length : Int)) := by omega
 have g2' : ¬ ((m.mem.vs.length : Int) < (t : Int) + 1) := by omega
 unfold ActV.good at hb
 unfold badE
 clear hsz
 by_cases h1 : a.op < 0
 ·rw [if_pos (.inl h1)]
  clear hb
  go_enter Tryz.func110, Tryz.ntmps110
  go_wp2_with (go_at_call 54; refine (Hsz.out _).mono ?_; rintro e w1 ⟨rfl, hb1⟩; obtain ⟨hcc1, hff1, hs1⟩ := bC hb1; (try simp at hs1); have hz1 : w.heap.size < w1.heap.size := oM; have hz2 : w.heap.size + 1 < w1.heap.size := oM)
  all_goals go_ret
  all_goals exact ⟨rfl, ab0⟩
 by_cases h2 : 8 < a.op
 ·rw [if_pos (.inr h2)]
  have h2' : a.op > 8 := h2
  clear hb
  go_enter Tryz.func110, Tryz.ntmps110
  go_wp2_with (go_at_call 54; refine (Hsz.out _).mono ?_; rintro e w1 ⟨rfl, hb1⟩; obtain ⟨hcc1, hff1, hs1⟩ := bC hb1; (try simp at hs1); have hz1 : w.heap.size < w1.heap.size := oM; have hz2 : w.heap.size + 1 < w1.heap.size := oM)
  all_goals go_ret
  all_goals exact ⟨rfl, ab0⟩
 rw [if_neg oM]
 have h2' : ¬ a.op > 8 := h2
 have b0 : (a.op == 0) = false := by simp only [beq_eq_false_iff_ne]; omega
 have b8 : (a.op == 8) = false := by simp only [beq_eq_false_iff_ne]; omega
 have c0 : (a.op != 0) = true := by simp only [bne_iff_ne]; omega
 have c8 : (a.op != 8) = true := by simp only [bne_iff_ne]; omega
 by_cases h3 : a.at_ < 0
 ·clear hb
  go_enter Tryz.func110, Tryz.ntmps110
  go_wp2_with (go_at_call 54; refine (Hsz.out _).mono ?_; rintro e w1 ⟨rfl, hb1⟩; obtain ⟨hcc1, hff1, hs1⟩ := bC hb1; (try simp at hs1); have hz1 : w.heap.size < w1.heap.size := oM; have hz2 : w.heap.size + 1 < w1.heap.size := oM)
  all_goals go_ret
  all_goals exact ⟨rfl, ab0⟩
 have h4 : (m.mem.hs.length : Int) ≤ a.at_ := by omega
 have h4' : a.at_ ≥ (m.mem.hs.length : Int) := h4
 clear hb
 go_enter Tryz.func110, Tryz.ntmps110
 go_wp2_with (go_at_call 54; refine (Hsz.out _).mono ?_; rintro e w1 ⟨rfl, hb1⟩; obtain ⟨hcc1, hff1, hs1⟩ := bC hb1; (try simp at hs1); have hz1 : w.heap.size < w1.heap.size := oM; have hz2 : w.heap.size + 1 < w1.heap.size := oM)
 all_goals go_ret
 all_goals exact ⟨rfl, ab0⟩
theorem mach_do_bad (m : MachV) (t : Nat) (ch : Int) (a : ActV) (w : World) (hR : m.R w) (ht : t < m.mem.vs.length) (hb : ¬ a.good m.mem.hs.length) :
  Calls Tryz.prog 65 #[(maV m), .int .i64 ((t : Int) + 1), (avV a), .int .i64 ch] w fun e w' => e = .returned (.tuple #[(maV m), .agg #[.int .i64 0, .int .u32 0, .int .u32 0, .bool false], .int .i64 (badE a)]) ∧ m.R w' ∧ Below w.heap.size w w' := by
 have hchk := fun W => mach_check_bad m t a W ht hb
 obtain ⟨er, her⟩ : ∃ er, er = badE a := ⟨_, rfl⟩
 have hne := badE_ne a
 rw [← her] at hne
 rw [← her] at hchk
 rw [← her]
 have hne' : (er != 0) = true := by simpa using hne
 have Hchk := hide hchk
 have HR := hide hR
 clear hchk hR her hb
 go_enter Tryz.func65, Tryz.ntmps65
 go_upto_region 3 with (go_at_call 110; refine (Hchk.out _).mono ?_; rintro e w1 ⟨rfl, hb1⟩; obtain ⟨hcc1, hff1, hs1⟩ := bC hb1; (try simp at hs1); have hz10 : w.heap.size < w1.heap.size := oM; have hz12 : w.heap.size + 1 + 1 < w1.heap.size := oM; have hz13 : w.heap.size + 1 + 1 + 1 < w1.heap.size := oM)
 have b0 : w1.cell? ⟨w.heap.size, 0, none⟩ = some (.slice m.mem.pA m.mem.hs.length m.mem.pc) := by go_simp
 have b1 : w1.cell? ⟨w.heap.size, 1, none⟩ = some (.slice m.mem.vA m.mem.vs.length m.mem.vc) := by go_simp
 have b2 : w1.cell? ⟨w.heap.size, 2, none⟩ = some (.slice m.ln.fA m.ln.first.length m.ln.fc) := by go_simp
 have b3 : w1.cell? ⟨w.heap.size, 3, none⟩ = some (.slice m.ln.lA m.ln.logs.length m.ln.lc) := by go_simp
 have b4 : w1.cell? ⟨w.heap.size, 4, none⟩ = some (.map m.ln.asks) := by go_simp
 have b5 : w1.cell? ⟨w.heap.size, 5, none⟩ = some (.slice m.sA m.steps.length m.sc) := by go_simp
 have b6 : w1.cell? ⟨w.heap.size, 6, none⟩ = some (.int .i64 m.crashes) := by go_simp
 have r0 : w1.cell? ⟨w.heap.size + 1 + 1, 0, none⟩ = some (.slice none 0 0) := by go_simp
 have r1 : w1.cell? ⟨w.heap.size + 1 + 1, 1, none⟩ = some (.slice none 0 0) := by go_simp
 have r2 : w1.cell? ⟨w.heap.size + 1 + 1, 2, none⟩ = some (.slice none 0 0) := by go_simp
 have r3 : w1.cell? ⟨w.heap.size + 1 + 1, 3, none⟩ = some (.slice none 0 0) := by go_simp
 have r4 : w1.cell? ⟨w.heap.size + 1 + 1, 4, none⟩ = some (.map none) := by go_simp
 have r5 : w1.cell? ⟨w.heap.size + 1 + 1, 5, none⟩ = some (.slice none 0 0) := by go_simp
 have r6 : w1.cell? ⟨w.heap.size + 1 + 1, 6, none⟩ = some (.int .i64 0) := by go_simp
 have g0 : w1.cell? ⟨w.heap.size + 1 + 1 + 1, 0, none⟩ = some (.int .i64 0) := by go_simp
 have g1 : w1.cell? ⟨w.heap.size + 1 + 1 + 1, 1, none⟩ = some (.int .u32 0) := by go_simp
 have g2 : w1.cell? ⟨w.heap.size + 1 + 1 + 1, 2, none⟩ = some (.int .u32 0) := by go_simp
 have g3 : w1.cell? ⟨w.heap.size + 1 + 1 + 1, 3, none⟩ = some (.bool false) := by go_simp
 have fb : ∀ o, w1.frozen? ⟨w.heap.size, o, none⟩ = false := by intro o; go_simp
 have fr : ∀ o, w1.frozen? ⟨w.heap.size + 1 + 1, o, none⟩ = false := by intro o; go_simp
 have fg : ∀ o, w1.frozen? ⟨w.heap.size + 1 + 1 + 1, o, none⟩ = false := by intro o; go_simp
 have hB1 : Below w.heap.size w w1 := ab0
 have XR := hide (show BoxC (w.heap.size + 1 + 1) machz w1 from box_of7 r0 r1 r2 r3 r4 r5 r6 fr)
 have XG := hide (show BoxC (w.heap.size + 1 + 1 + 1) gotz w1 from box_of4 g0 g1 g2 g3 fg)
 have oR := MachV.off_new HR.out (C := w.heap.size + 1 + 1) oM
 have oG := MachV.off_new HR.out (C := w.heap.size + 1 + 1 + 1) oM
 have HB1 := hide hB1
 clear hcc1 hff1 hb1 hB1
 go_wp2_with fail
 all_goals obtain ⟨wz, hwz⟩ : ∃ W : World, W = setFrom (setFrom w1 (w.heap.size + 1 + 1) 0 (machl m)) (w.heap.size + 1 + 1 + 1) 0 gotz := ⟨_, rfl⟩
 all_goals have hz : m.R wz ∧ Below w.heap.size w wz := (by rw [hwz]; exact ⟨MachV.R.fill (MachV.R.fill (HR.out.below HB1.out) oR XR.out.some (by simp [machl, machz]) 0 (by simp [machl, machz])) oG (BoxC.farFrom oM _ _ XG.out).some (by simp [gotz]) 0 (by simp [gotz]), below_setFrom oM _ _ (below_setFrom oM _ _ HB1.out)⟩)
 all_goals have Hz := hide hz
 all_goals clear hz
 all_goals simp only [setFrom, machl, gotz, Nat.zero_add, Nat.reduceAdd] at hwz
 all_goals refine bodyPost_ret (v := .tuple #[(.agg #[.slice (m).mem.pA (m).mem.hs.length (m).mem.pc, .slice (m).mem.vA (m).mem.vs.length (m).mem.vc, .slice (m).ln.fA (m).ln.first.length (m).ln.fc, .slice (m).ln.lA (m).ln.logs.length (m).ln.lc, .map (m).ln.asks, .slice (m).sA (m).steps.length (m).sc, .int .i64 (m).crashes]), .agg #[.int .i64 0, .int .u32 0, .int .u32 0, .bool false], .int .i64 er]) (by simp [results, Tryz.results65, go_sem]; (try go_simp)) rfl ?_
 all_goals rw [← hwz]
 all_goals exact ⟨rfl, Hz.out⟩
end Go.Proofs.YtnnmenmifphadaaGreatDoor
