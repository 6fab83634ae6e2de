/- Package machine: Do. -/
import Derived.Test.YtfdndkgjmmeafaaGreatDoorG29
namespace Go.Proofs.YtfdndkgjmmeafaaGreatDoor
set_option linter.unusedSimpArgs false
set_option linter.unusedVariables false
open Go.RowKit Go.Maps
theorem ones_int (l : List Int) : ∀ u ∈ l.map (Value.int .i64), u.oneCell' = true := by
  intro u hu
  obtain ⟨y, -, rfl⟩ := List.mem_map.1 hu
  rfl
/-- What read and write leave: a machine, a word, a sign. -/
def Inner (m : MachV) (E : MachV → W3 → Bool → Prop) (W : World) (e : Ending) (w' : World) : Prop := ∃ (m1 : MachV) (x : W3) (ok : Bool), e = .returned (.tuple #[(.agg #[.slice (m1).mem.pA (m1).mem.hs.length (m1).mem.pc, .slice (m1).mem.vA (m1).mem.vs.length (m1).mem.vc, .slice (m1).ln.fA (m1).ln.first.length (m1).ln.fc, .slice (m1).ln.lA (m1).ln.logs.length (m1).ln.lc, .map (m1).ln.asks, .slice (m1).sA (m1).steps.length (m1).sc, .int .i64 (m1).crashes]), (.agg #[.int .i64 (x).v, .int .u32 (x).r, .int .u32 (x).f, .bool ok])]) ∧ E m1 x ok ∧ (m1.sA = m.sA ∧ m1.sc = m.sc ∧ m1.steps = m.steps ∧ m1.crashes = m.crashes) ∧ m1.R w' ∧ (∀ C, C < W.heap.size → m.off C → m1.off C) ∧ Below W.heap.size W w'
/-- The machine behind an act, from what read or write left. -/
def MachV.stepped (m1 : MachV) (gs sc t : Nat) (s : Int) : MachV := ⟨m1.mem, m1.ln, some ⟨gs, 0, none⟩, sc, m1.steps.set t s, m1.crashes⟩
set_option maxHeartbeats 8000000 in
set_option maxRecDepth 100000 in
theorem mach_do_read (m : MachV) (t : Nat) (s ch : Int) (act : ActV) (w : World) (E : MachV → W3 → Bool → Prop) (hR : m.R w) (ht : t < m.mem.vs.length) (hn : m.mem.vs.length ≤ 1000) (hs : m.steps[t]? = some s) (hs6 : m.steps.length ≤ 1000) (hop : act.op = 1 ∨ act.op = 2 ∨ act.op = 5) (hat : 0 ≤ act.at_ ∧ act.at_ < (m.mem.hs.length : Int)) (hin : ∀ W, m.R W → Calls Tryz.prog 132 #[(.agg #[.slice (m).mem.pA (m).mem.hs.length (m).mem.pc, .slice (m).mem.vA (m).mem.vs.length (m).mem.vc, .slice (m).ln.fA (m).ln.first.length (m).ln.fc, .slice (m).ln.lA (m).ln.logs.length (m).ln.lc, .map (m).ln.asks, .slice (m).sA (m).steps.length (m).sc, .int .i64 (m).crashes]), .int .i64 ((t : Int) + 1), (.agg #[.int .i64 (act).op, .int .i64 (act).at_, .int .i64 (act).old.v, .int .u32 (act).old.r, .int .u32 (act).old.f, .int .i64 (act).new.v, .int .u32 (act).new.r, .int .u32 (act).new.f]), .int .i64 ch] W (Inner m E W)) :
  Calls Tryz.prog 108 #[(.agg #[.slice (m).mem.pA (m).mem.hs.length (m).mem.pc, .slice (m).mem.vA (m).mem.vs.length (m).mem.vc, .slice (m).ln.fA (m).ln.first.length (m).ln.fc, .slice (m).ln.lA (m).ln.logs.length (m).ln.lc, .map (m).ln.asks, .slice (m).sA (m).steps.length (m).sc, .int .i64 (m).crashes]), .int .i64 ((t : Int) + 1), (.agg #[.int .i64 (act).op, .int .i64 (act).at_, .int .i64 (act).old.v, .int .u32 (act).old.r, .int .u32 (act).old.f, .int .i64 (act).new.v, .int .u32 (act).new.r, .int .u32 (act).new.f]), .int .i64 ch] w fun e w' => ∃ (m1 : MachV) (x : W3) (ok : Bool) (gs sc' : Nat), e = .returned (.tuple #[(.agg #[.slice ((m1.stepped gs sc' t (wrap64 (s + 1)))).mem.pA ((m1.stepped gs sc' t (wrap64 (s + 1)))).mem.hs.length ((m1.stepped gs sc' t (wrap64 (s + 1)))).mem.pc, .slice ((m1.stepped gs sc' t (wrap64 (s + 1)))).mem.vA ((m1.stepped gs sc' t (wrap64 (s + 1)))).mem.vs.length ((m1.stepped gs sc' t (wrap64 (s + 1)))).mem.vc, .slice ((m1.stepped gs sc' t (wrap64 (s + 1)))).ln.fA ((m1.stepped gs sc' t (wrap64 (s + 1)))).ln.first.length ((m1.stepped gs sc' t (wrap64 (s + 1)))).ln.fc, .slice ((m1.stepped gs sc' t (wrap64 (s + 1)))).ln.lA ((m1.stepped gs sc' t (wrap64 (s + 1)))).ln.logs.length ((m1.stepped gs sc' t (wrap64 (s + 1)))).ln.lc, .map ((m1.stepped gs sc' t (wrap64 (s + 1)))).ln.asks, .slice ((m1.stepped gs sc' t (wrap64 (s + 1)))).sA ((m1.stepped gs sc' t (wrap64 (s + 1)))).steps.length ((m1.stepped gs sc' t (wrap64 (s + 1)))).sc, .int .i64 ((m1.stepped gs sc' t (wrap64 (s + 1)))).crashes]), (.agg #[.int .i64 (x).v, .int .u32 (x).r, .int .u32 (x).f, .bool ok]), .int .i64 0]) ∧ E m1 x ok ∧ MachV.R w' (m1.stepped gs sc' t (wrap64 (s + 1))) ∧ (∀ C, C < w.heap.size → m.off C → MachV.off C (m1.stepped gs sc' t (wrap64 (s + 1)))) ∧ Below w.heap.size w w' := by
  have hgood : act.good m.mem.hs.length := ⟨by omega, by omega, .inr (.inr hat)⟩
  have hts : t < m.steps.length := (List.getElem?_eq_some_iff.1 hs).1
  have hchk := fun W => mach_check m t act W ht hgood
  have Hchk := hide hchk
  have HR := hide hR
  have HS := hide hs
  clear hchk hR hs hgood
  have hchg := fun W => mach_changes act W
  rw [show (decide (act.op = 3) || decide (act.op = 4) || decide (act.op = 6)) = false by rcases hop with h | h | h <;> rw [h] <;> decide] at hchg
  have Hchg := hide hchg
  have Hin := hide hin
  have k7 : ¬ act.op = 7 := by omega
  have k8 : ¬ act.op = 8 := by omega
  have k0 : ¬ act.op = 0 := by omega
  clear hchg hin hop hat
  go_enter Tryz.func108, Tryz.ntmps108
  go_upto_region 13 with (first
    | (go_at_call 129; refine (Hchk.out _).mono ?_; rintro e w1 ⟨rfl, hb1⟩; obtain ⟨hcc1, hff1⟩ := bcell hb1; have hs1 := hb1.size; (try simp at hs1); have hz10 : w.heap.size < w1.heap.size := (by omega); have hz11 : w.heap.size + 1 < w1.heap.size := (by omega); have hz12 : w.heap.size + 1 + 1 < w1.heap.size := (by omega); have hz13 : w.heap.size + 1 + 1 + 1 < w1.heap.size := (by omega))
    | (go_at_call 10; refine (Hchg.out _).mono ?_; rintro e w2 ⟨rfl, hb2⟩; obtain ⟨hcc2, hff2⟩ := bcell hb2; have hs2 := hb2.size; (try simp at hs2); have hz20 : w.heap.size < w2.heap.size := (by omega); have hz21 : w.heap.size + 1 < w2.heap.size := (by omega); have hz22 : w.heap.size + 1 + 1 < w2.heap.size := (by omega); have hz23 : w.heap.size + 1 + 1 + 1 < w2.heap.size := (by omega); have hz24 : w1.heap.size < w2.heap.size := (by omega))
    | (go_at_call 132; refine (Hin.out _ (HR.out.below (by repeat' (first | with_reducible exact Below.refl _ _ | with_reducible assumption | with_reducible refine Below.alloc ?_ ?_ _ | with_reducible refine Below.setCell ?_ ?_ _ | with_reducible refine Below.drew ?_ | with_reducible refine below_drewN ?_ _ | with_reducible refine Below.trans ?_ (Below.mono (by with_reducible assumption) ?_) | omega | (simp <;> omega))))).mono ?_; rintro e w3 ⟨m1, x, ok, rfl, hE1, ⟨he1, he2, he3, he4⟩, hR3, hoff3, hb3⟩; obtain ⟨hcc3, hff3⟩ := bcell hb3; have hs3 := hb3.size; (try simp at hs3); have HE1 := hide hE1; have He3 := hide he3; have HR3 := hide hR3; have Hoff3 := hide hoff3; clear hE1 he1 he2 he3 he4 hR3 hoff3; have hz30 : w.heap.size < w3.heap.size := (by omega); have hz31 : w.heap.size + 1 < w3.heap.size := (by omega); have hz32 : w.heap.size + 1 + 1 < w3.heap.size := (by omega); have hz33 : w.heap.size + 1 + 1 + 1 < w3.heap.size := (by omega); have hz34 : w1.heap.size < w3.heap.size := (by omega)))
  have ob0 : w3.cell? ⟨w.heap.size, 0, none⟩ = some (.slice m.mem.pA m.mem.hs.length m.mem.pc) := by go_simp
  have ob1 : w3.cell? ⟨w.heap.size, 1, none⟩ = some (.slice m.mem.vA m.mem.vs.length m.mem.vc) := by go_simp
  have ob2 : w3.cell? ⟨w.heap.size, 2, none⟩ = some (.slice m.ln.fA m.ln.first.length m.ln.fc) := by go_simp
  have ob3 : w3.cell? ⟨w.heap.size, 3, none⟩ = some (.slice m.ln.lA m.ln.logs.length m.ln.lc) := by go_simp
  have ob4 : w3.cell? ⟨w.heap.size, 4, none⟩ = some (.map m.ln.asks) := by go_simp
  have ob5 : w3.cell? ⟨w.heap.size, 5, none⟩ = some (.slice m.sA m.steps.length m.sc) := by go_simp
  have ob6 : w3.cell? ⟨w.heap.size, 6, none⟩ = some (.int .i64 m.crashes) := by go_simp
  have or0 : w3.cell? ⟨w.heap.size + 1 + 1, 0, none⟩ = some (.slice none 0 0) := by go_simp
  have or1 : w3.cell? ⟨w.heap.size + 1 + 1, 1, none⟩ = some (.slice none 0 0) := by go_simp
  have or2 : w3.cell? ⟨w.heap.size + 1 + 1, 2, none⟩ = some (.slice none 0 0) := by go_simp
  have or3 : w3.cell? ⟨w.heap.size + 1 + 1, 3, none⟩ = some (.slice none 0 0) := by go_simp
  have or4 : w3.cell? ⟨w.heap.size + 1 + 1, 4, none⟩ = some (.map none) := by go_simp
  have or5 : w3.cell? ⟨w.heap.size + 1 + 1, 5, none⟩ = some (.slice none 0 0) := by go_simp
  have or6 : w3.cell? ⟨w.heap.size + 1 + 1, 6, none⟩ = some (.int .i64 0) := by go_simp
  have og0 : w3.cell? ⟨w.heap.size + 1 + 1 + 1, 0, none⟩ = some (.int .i64 0) := by go_simp
  have og1 : w3.cell? ⟨w.heap.size + 1 + 1 + 1, 1, none⟩ = some (.int .u32 0) := by go_simp
  have og2 : w3.cell? ⟨w.heap.size + 1 + 1 + 1, 2, none⟩ = some (.int .u32 0) := by go_simp
  have og3 : w3.cell? ⟨w.heap.size + 1 + 1 + 1, 3, none⟩ = some (.bool false) := by go_simp
  have ox0 : w3.cell? ⟨w1.heap.size, 0, none⟩ = some (.int .i64 0) := by go_simp
  have ox1 : w3.cell? ⟨w1.heap.size, 1, none⟩ = some (.int .u32 0) := by go_simp
  have ox2 : w3.cell? ⟨w1.heap.size, 2, none⟩ = some (.int .u32 0) := by go_simp
  have ox3 : w3.cell? ⟨w1.heap.size, 3, none⟩ = some (.bool true) := by go_simp
  have ofb : ∀ o, w3.frozen? ⟨w.heap.size, o, none⟩ = false := by intro o; go_simp
  have ofr : ∀ o, w3.frozen? ⟨w.heap.size + 1 + 1, o, none⟩ = false := by intro o; go_simp
  have ofg : ∀ o, w3.frozen? ⟨w.heap.size + 1 + 1 + 1, o, none⟩ = false := by intro o; go_simp
  have hB3 : Below w.heap.size w w3 := (by repeat' (first | with_reducible exact Below.refl _ _ | with_reducible assumption | with_reducible refine Below.alloc ?_ ?_ _ | with_reducible refine Below.setCell ?_ ?_ _ | with_reducible refine Below.drew ?_ | with_reducible refine below_drewN ?_ _ | with_reducible refine Below.trans ?_ (Below.mono (by with_reducible assumption) ?_) | omega | (simp <;> omega)))
  clear hcc1 hff1 hb1 hcc2 hff2 hb2 hcc3 hff3
  obtain ⟨wA, hwA⟩ : ∃ W : World, W = (((((((((((w3.setCell ⟨w.heap.size, 0, none⟩ (.slice m1.mem.pA m1.mem.hs.length m1.mem.pc)).setCell ⟨w.heap.size, 1, none⟩ (.slice m1.mem.vA m1.mem.vs.length m1.mem.vc)).setCell ⟨w.heap.size, 2, none⟩ (.slice m1.ln.fA m1.ln.first.length m1.ln.fc)).setCell ⟨w.heap.size, 3, none⟩ (.slice m1.ln.lA m1.ln.logs.length m1.ln.lc)).setCell ⟨w.heap.size, 4, none⟩ (.map m1.ln.asks)).setCell ⟨w.heap.size, 5, none⟩ (.slice m1.sA m1.steps.length m1.sc)).setCell ⟨w.heap.size, 6, none⟩ (.int .i64 m1.crashes)).setCell ⟨w1.heap.size, 0, none⟩ (.int .i64 x.v)).setCell ⟨w1.heap.size, 1, none⟩ (.int .u32 x.r)).setCell ⟨w1.heap.size, 2, none⟩ (.int .u32 x.f)).setCell ⟨w1.heap.size, 3, none⟩ (.bool ok)) := ⟨_, rfl⟩
  have hsA : wA.heap.size = w3.heap.size := by rw [hwA]; simp
  have n41 : ¬ w.heap.size = w1.heap.size := by omega
  have n42 : ¬ w.heap.size + 1 + 1 = w1.heap.size := by omega
  have n43 : ¬ w.heap.size + 1 + 1 + 1 = w1.heap.size := by omega
  have n44 : ¬ w1.heap.size = w.heap.size := by omega
  have ab0 : wA.cell? ⟨w.heap.size, 0, none⟩ = some (.slice m1.mem.pA m1.mem.hs.length m1.mem.pc) := by rw [hwA]; go_simp
  have ab1 : wA.cell? ⟨w.heap.size, 1, none⟩ = some (.slice m1.mem.vA m1.mem.vs.length m1.mem.vc) := by rw [hwA]; go_simp
  have ab2 : wA.cell? ⟨w.heap.size, 2, none⟩ = some (.slice m1.ln.fA m1.ln.first.length m1.ln.fc) := by rw [hwA]; go_simp
  have ab3 : wA.cell? ⟨w.heap.size, 3, none⟩ = some (.slice m1.ln.lA m1.ln.logs.length m1.ln.lc) := by rw [hwA]; go_simp
  have ab4 : wA.cell? ⟨w.heap.size, 4, none⟩ = some (.map m1.ln.asks) := by rw [hwA]; go_simp
  have ab5 : wA.cell? ⟨w.heap.size, 5, none⟩ = some (.slice m1.sA m1.steps.length m1.sc) := by rw [hwA]; go_simp
  have ab6 : wA.cell? ⟨w.heap.size, 6, none⟩ = some (.int .i64 m1.crashes) := by rw [hwA]; go_simp
  have ar0 : wA.cell? ⟨w.heap.size + 1 + 1, 0, none⟩ = some (.slice none 0 0) := by rw [hwA]; go_simp
  have ar1 : wA.cell? ⟨w.heap.size + 1 + 1, 1, none⟩ = some (.slice none 0 0) := by rw [hwA]; go_simp
  have ar2 : wA.cell? ⟨w.heap.size + 1 + 1, 2, none⟩ = some (.slice none 0 0) := by rw [hwA]; go_simp
  have ar3 : wA.cell? ⟨w.heap.size + 1 + 1, 3, none⟩ = some (.slice none 0 0) := by rw [hwA]; go_simp
  have ar4 : wA.cell? ⟨w.heap.size + 1 + 1, 4, none⟩ = some (.map none) := by rw [hwA]; go_simp
  have ar5 : wA.cell? ⟨w.heap.size + 1 + 1, 5, none⟩ = some (.slice none 0 0) := by rw [hwA]; go_simp
  have ar6 : wA.cell? ⟨w.heap.size + 1 + 1, 6, none⟩ = some (.int .i64 0) := by rw [hwA]; go_simp
  have ag0 : wA.cell? ⟨w.heap.size + 1 + 1 + 1, 0, none⟩ = some (.int .i64 0) := by rw [hwA]; go_simp
  have ag1 : wA.cell? ⟨w.heap.size + 1 + 1 + 1, 1, none⟩ = some (.int .u32 0) := by rw [hwA]; go_simp
  have ag2 : wA.cell? ⟨w.heap.size + 1 + 1 + 1, 2, none⟩ = some (.int .u32 0) := by rw [hwA]; go_simp
  have ag3 : wA.cell? ⟨w.heap.size + 1 + 1 + 1, 3, none⟩ = some (.bool false) := by rw [hwA]; go_simp
  have ax0 : wA.cell? ⟨w1.heap.size, 0, none⟩ = some (.int .i64 x.v) := by rw [hwA]; go_simp
  have ax1 : wA.cell? ⟨w1.heap.size, 1, none⟩ = some (.int .u32 x.r) := by rw [hwA]; go_simp
  have ax2 : wA.cell? ⟨w1.heap.size, 2, none⟩ = some (.int .u32 x.f) := by rw [hwA]; go_simp
  have ax3 : wA.cell? ⟨w1.heap.size, 3, none⟩ = some (.bool ok) := by rw [hwA]; go_simp
  have afb : ∀ o, wA.frozen? ⟨w.heap.size, o, none⟩ = false := by intro o; rw [hwA]; go_simp
  have afr : ∀ o, wA.frozen? ⟨w.heap.size + 1 + 1, o, none⟩ = false := by intro o; rw [hwA]; go_simp
  have afg : ∀ o, wA.frozen? ⟨w.heap.size + 1 + 1 + 1, o, none⟩ = false := by intro o; rw [hwA]; go_simp
  have aoB : MachV.off (w.heap.size) m1 := Hoff3.out _ (by first | omega | (simp; done) | (simp; omega)) (MachV.off_new HR.out (by omega))
  have aoR : MachV.off (w.heap.size + 1 + 1) m1 := Hoff3.out _ (by first | omega | (simp; done) | (simp; omega)) (MachV.off_new HR.out (by omega))
  have aoG : MachV.off (w.heap.size + 1 + 1 + 1) m1 := Hoff3.out _ (by first | omega | (simp; done) | (simp; omega)) (MachV.off_new HR.out (by omega))
  have aoX : MachV.off (w1.heap.size) m1 := Hoff3.out _ (by first | omega | (simp; done) | (simp; omega)) (MachV.off_new HR.out (by omega))
  have HRA : Hid (MachV.R wA m1) := hide (by rw [hwA]; exact (MachV.R.set (MachV.R.set (MachV.R.set (MachV.R.set (MachV.R.set (MachV.R.set (MachV.R.set (MachV.R.set (MachV.R.set (MachV.R.set (MachV.R.set HR3.out aoB (.of ob0) (.slice m1.mem.pA m1.mem.hs.length m1.mem.pc)) aoB (.set (.of ob1) _) (.slice m1.mem.vA m1.mem.vs.length m1.mem.vc)) aoB (.set (.set (.of ob2) _) _) (.slice m1.ln.fA m1.ln.first.length m1.ln.fc)) aoB (.set (.set (.set (.of ob3) _) _) _) (.slice m1.ln.lA m1.ln.logs.length m1.ln.lc)) aoB (.set (.set (.set (.set (.of ob4) _) _) _) _) (.map m1.ln.asks)) aoB (.set (.set (.set (.set (.set (.of ob5) _) _) _) _) _) (.slice m1.sA m1.steps.length m1.sc)) aoB (.set (.set (.set (.set (.set (.set (.of ob6) _) _) _) _) _) _) (.int .i64 m1.crashes)) aoX (.set (.set (.set (.set (.set (.set (.set (.of ox0) _) _) _) _) _) _) _) (.int .i64 x.v)) aoX (.set (.set (.set (.set (.set (.set (.set (.set (.of ox1) _) _) _) _) _) _) _) _) (.int .u32 x.r)) aoX (.set (.set (.set (.set (.set (.set (.set (.set (.set (.of ox2) _) _) _) _) _) _) _) _) _) (.int .u32 x.f)) aoX (.set (.set (.set (.set (.set (.set (.set (.set (.set (.set (.of ox3) _) _) _) _) _) _) _) _) _) _) (.bool ok)))
  have hBA : Below w.heap.size w wA := by rw [hwA]; exact (Below.setCell (Below.setCell (Below.setCell (Below.setCell (Below.setCell (Below.setCell (Below.setCell (Below.setCell (Below.setCell (Below.setCell (Below.setCell hB3 (p := ⟨w.heap.size, 0, none⟩) (by show w.heap.size ≤ w.heap.size; omega) (.slice m1.mem.pA m1.mem.hs.length m1.mem.pc)) (p := ⟨w.heap.size, 1, none⟩) (by show w.heap.size ≤ w.heap.size; omega) (.slice m1.mem.vA m1.mem.vs.length m1.mem.vc)) (p := ⟨w.heap.size, 2, none⟩) (by show w.heap.size ≤ w.heap.size; omega) (.slice m1.ln.fA m1.ln.first.length m1.ln.fc)) (p := ⟨w.heap.size, 3, none⟩) (by show w.heap.size ≤ w.heap.size; omega) (.slice m1.ln.lA m1.ln.logs.length m1.ln.lc)) (p := ⟨w.heap.size, 4, none⟩) (by show w.heap.size ≤ w.heap.size; omega) (.map m1.ln.asks)) (p := ⟨w.heap.size, 5, none⟩) (by show w.heap.size ≤ w.heap.size; omega) (.slice m1.sA m1.steps.length m1.sc)) (p := ⟨w.heap.size, 6, none⟩) (by show w.heap.size ≤ w.heap.size; omega) (.int .i64 m1.crashes)) (p := ⟨w1.heap.size, 0, none⟩) (by show w.heap.size ≤ w1.heap.size; omega) (.int .i64 x.v)) (p := ⟨w1.heap.size, 1, none⟩) (by show w.heap.size ≤ w1.heap.size; omega) (.int .u32 x.r)) (p := ⟨w1.heap.size, 2, none⟩) (by show w.heap.size ≤ w1.heap.size; omega) (.int .u32 x.f)) (p := ⟨w1.heap.size, 3, none⟩) (by show w.heap.size ≤ w1.heap.size; omega) (.bool ok))
  have aoff : Hid (∀ C, C < w.heap.size → m.off C → m1.off C) := hide (fun C hC h => Hoff3.out C (by first | omega | (simp; done) | (simp; omega)) h)
  have HS1 : Hid (m1.steps[t]? = some s) := hide (by rw [He3.out]; exact HS.out)
  have hts1 : t < m1.steps.length := by rw [He3.out]; exact hts
  have hl6 : m1.steps.length ≤ 1000 := by rw [He3.out]; exact hs6
  have azb : w.heap.size < wA.heap.size := by omega
  have azr : w.heap.size + 1 + 1 < wA.heap.size := by omega
  have azg : w.heap.size + 1 + 1 + 1 < wA.heap.size := by omega
  have azx : w1.heap.size < wA.heap.size := by omega
  have hsA3 : w3.heap.size ≤ wA.heap.size := by omega
  have aE := HE1
  rw [← hwA]
  clear hwA hsA hb3 ob0 ob1 ob2 ob3 ob4 ob5 ob6 or0 or1 or2 or3 or4 or5 or6 og0 og1 og2 og3 ox0 ox1 ox2 ox3 ofb ofr ofg
  have hcl := clone_I m1.sA m1.steps.length m1.sc (m1.steps.map (Value.int .i64)) wA HRA.out.2.2.2.2 HRA.out.2.2.2.1 (ones_int _) (by omega)
  have Hcl := hide hcl
  clear hcl
  go_upto_region 14 with (first
    | (go_at_call 106; refine Hcl.out.mono ?_; rintro e wB ⟨A', sc', rfl, how, hbB⟩; obtain ⟨gs, sc2, hA1, hsc, hgs, hrs⟩ := own_some how (by omega); injection hA1 with hA1 _ hA2; subst hA1 hA2; have Hcs := hide (own_cells how).1; have hfs := (own_cells how).2; have Hrs := hide hrs; clear how hrs; have hsB := hbB.size; have qb0 := (hbB.cell (p := ⟨w.heap.size, 0, none⟩) azb).trans ab0; have qb1 := (hbB.cell (p := ⟨w.heap.size, 1, none⟩) azb).trans ab1; have qb2 := (hbB.cell (p := ⟨w.heap.size, 2, none⟩) azb).trans ab2; have qb3 := (hbB.cell (p := ⟨w.heap.size, 3, none⟩) azb).trans ab3; have qb4 := (hbB.cell (p := ⟨w.heap.size, 4, none⟩) azb).trans ab4; have qb5 := (hbB.cell (p := ⟨w.heap.size, 5, none⟩) azb).trans ab5; have qb6 := (hbB.cell (p := ⟨w.heap.size, 6, none⟩) azb).trans ab6; have qr0 := (hbB.cell (p := ⟨w.heap.size + 1 + 1, 0, none⟩) azr).trans ar0; have qr1 := (hbB.cell (p := ⟨w.heap.size + 1 + 1, 1, none⟩) azr).trans ar1; have qr2 := (hbB.cell (p := ⟨w.heap.size + 1 + 1, 2, none⟩) azr).trans ar2; have qr3 := (hbB.cell (p := ⟨w.heap.size + 1 + 1, 3, none⟩) azr).trans ar3; have qr4 := (hbB.cell (p := ⟨w.heap.size + 1 + 1, 4, none⟩) azr).trans ar4; have qr5 := (hbB.cell (p := ⟨w.heap.size + 1 + 1, 5, none⟩) azr).trans ar5; have qr6 := (hbB.cell (p := ⟨w.heap.size + 1 + 1, 6, none⟩) azr).trans ar6; have qg0 := (hbB.cell (p := ⟨w.heap.size + 1 + 1 + 1, 0, none⟩) azg).trans ag0; have qg1 := (hbB.cell (p := ⟨w.heap.size + 1 + 1 + 1, 1, none⟩) azg).trans ag1; have qg2 := (hbB.cell (p := ⟨w.heap.size + 1 + 1 + 1, 2, none⟩) azg).trans ag2; have qg3 := (hbB.cell (p := ⟨w.heap.size + 1 + 1 + 1, 3, none⟩) azg).trans ag3; have qx0 := (hbB.cell (p := ⟨w1.heap.size, 0, none⟩) azx).trans ax0; have qx1 := (hbB.cell (p := ⟨w1.heap.size, 1, none⟩) azx).trans ax1; have qx2 := (hbB.cell (p := ⟨w1.heap.size, 2, none⟩) azx).trans ax2; have qx3 := (hbB.cell (p := ⟨w1.heap.size, 3, none⟩) azx).trans ax3; have qfb : ∀ o, wB.frozen? ⟨w.heap.size, o, none⟩ = false := (fun o => (hbB.frozen (p := ⟨w.heap.size, o, none⟩) azb).trans (afb o)); have qfr : ∀ o, wB.frozen? ⟨w.heap.size + 1 + 1, o, none⟩ = false := (fun o => (hbB.frozen (p := ⟨w.heap.size + 1 + 1, o, none⟩) azr).trans (afr o)); have qfg : ∀ o, wB.frozen? ⟨w.heap.size + 1 + 1 + 1, o, none⟩ = false := (fun o => (hbB.frozen (p := ⟨w.heap.size + 1 + 1 + 1, o, none⟩) azg).trans (afg o)); clear ab0 ab1 ab2 ab3 ab4 ab5 ab6 ar0 ar1 ar2 ar3 ar4 ar5 ar6 ag0 ag1 ag2 ag3 ax0 ax1 ax2 ax3 afb afr afg))
  have ng0 : ¬ w.heap.size = gs := by omega
  have ng2 : ¬ w.heap.size + 1 + 1 = gs := by omega
  have ng3 : ¬ w.heap.size + 1 + 1 + 1 = gs := by omega
  have ng4 : ¬ w1.heap.size = gs := by omega
  have ks := Hcs.out t (.int .i64 s) (by rw [List.getElem?_map, HS1.out]; rfl)
  obtain ⟨wC, hwC⟩ : ∃ W : World, W = (wB.setCell ⟨w.heap.size, 5, none⟩ (.slice (some ⟨gs, 0, none⟩) m1.steps.length sc')) := ⟨_, rfl⟩
  have hsC : wC.heap.size = wB.heap.size := by rw [hwC]; simp
  have kc : wC.cell? ⟨gs, t, none⟩ = some (.int .i64 s) := by rw [hwC]; go_simp
  have kfs : ∀ o, wC.frozen? ⟨gs, o, none⟩ = false := by intro o; rw [hwC]; go_simp
  have kb0 : wC.cell? ⟨w.heap.size, 0, none⟩ = some (.slice m1.mem.pA m1.mem.hs.length m1.mem.pc) := by rw [hwC]; go_simp
  have kb1 : wC.cell? ⟨w.heap.size, 1, none⟩ = some (.slice m1.mem.vA m1.mem.vs.length m1.mem.vc) := by rw [hwC]; go_simp
  have kb2 : wC.cell? ⟨w.heap.size, 2, none⟩ = some (.slice m1.ln.fA m1.ln.first.length m1.ln.fc) := by rw [hwC]; go_simp
  have kb3 : wC.cell? ⟨w.heap.size, 3, none⟩ = some (.slice m1.ln.lA m1.ln.logs.length m1.ln.lc) := by rw [hwC]; go_simp
  have kb4 : wC.cell? ⟨w.heap.size, 4, none⟩ = some (.map m1.ln.asks) := by rw [hwC]; go_simp
  have kb5 : wC.cell? ⟨w.heap.size, 5, none⟩ = some (.slice (some ⟨gs, 0, none⟩) m1.steps.length sc') := by rw [hwC]; go_simp
  have kb6 : wC.cell? ⟨w.heap.size, 6, none⟩ = some (.int .i64 m1.crashes) := by rw [hwC]; go_simp
  have kr0 : wC.cell? ⟨w.heap.size + 1 + 1, 0, none⟩ = some (.slice none 0 0) := by rw [hwC]; go_simp
  have kr1 : wC.cell? ⟨w.heap.size + 1 + 1, 1, none⟩ = some (.slice none 0 0) := by rw [hwC]; go_simp
  have kr2 : wC.cell? ⟨w.heap.size + 1 + 1, 2, none⟩ = some (.slice none 0 0) := by rw [hwC]; go_simp
  have kr3 : wC.cell? ⟨w.heap.size + 1 + 1, 3, none⟩ = some (.slice none 0 0) := by rw [hwC]; go_simp
  have kr4 : wC.cell? ⟨w.heap.size + 1 + 1, 4, none⟩ = some (.map none) := by rw [hwC]; go_simp
  have kr5 : wC.cell? ⟨w.heap.size + 1 + 1, 5, none⟩ = some (.slice none 0 0) := by rw [hwC]; go_simp
  have kr6 : wC.cell? ⟨w.heap.size + 1 + 1, 6, none⟩ = some (.int .i64 0) := by rw [hwC]; go_simp
  have kg0 : wC.cell? ⟨w.heap.size + 1 + 1 + 1, 0, none⟩ = some (.int .i64 0) := by rw [hwC]; go_simp
  have kg1 : wC.cell? ⟨w.heap.size + 1 + 1 + 1, 1, none⟩ = some (.int .u32 0) := by rw [hwC]; go_simp
  have kg2 : wC.cell? ⟨w.heap.size + 1 + 1 + 1, 2, none⟩ = some (.int .u32 0) := by rw [hwC]; go_simp
  have kg3 : wC.cell? ⟨w.heap.size + 1 + 1 + 1, 3, none⟩ = some (.bool false) := by rw [hwC]; go_simp
  have kx0 : wC.cell? ⟨w1.heap.size, 0, none⟩ = some (.int .i64 x.v) := by rw [hwC]; go_simp
  have kx1 : wC.cell? ⟨w1.heap.size, 1, none⟩ = some (.int .u32 x.r) := by rw [hwC]; go_simp
  have kx2 : wC.cell? ⟨w1.heap.size, 2, none⟩ = some (.int .u32 x.f) := by rw [hwC]; go_simp
  have kx3 : wC.cell? ⟨w1.heap.size, 3, none⟩ = some (.bool ok) := by rw [hwC]; go_simp
  have kfr : ∀ o, wC.frozen? ⟨w.heap.size + 1 + 1, o, none⟩ = false := by intro o; rw [hwC]; go_simp
  have kfg : ∀ o, wC.frozen? ⟨w.heap.size + 1 + 1 + 1, o, none⟩ = false := by intro o; rw [hwC]; go_simp
  have HRC : Hid (MachV.R wC m1) := hide (by rw [hwC]; exact MachV.R.set (HRA.out.below hbB) aoB (.of qb5) _)
  have HrsC := hide (show Rd wC wC.heap.size 1 (some ⟨gs, 0, none⟩) m1.steps.length (m1.steps.map (Value.int .i64)) by rw [hwC]; exact Rd.more (Rd.set_off Hrs.out (OffC.at (fun e => ng0 e.symm)) _) (by simp))
  have hBC : Below w.heap.size w wC := by rw [hwC]; exact (hBA.trans (hbB.mono (by omega))).setCell (p := ⟨w.heap.size, 5, none⟩) (Nat.le_refl _) _
  rw [← hwC]
  clear hwC ks Hcs Hrs hfs qb0 qb1 qb2 qb3 qb4 qb5 qb6 qr0 qr1 qr2 qr3 qr4 qr5 qr6 qg0 qg1 qg2 qg3 qx0 qx1 qx2 qx3 qfb qfr qfg
  have hw1 : IntKind.i64.wrap ((t : Int) + 1 - 1) = (t : Int) := by rw [show (t : Int) + 1 - 1 = (t : Int) by omega]; exact IntWalk.i64_in _ (by omega)
  have hw2 : IntKind.i64.wrap (t : Int) = (t : Int) := IntWalk.i64_in _ (by omega)
  have j0 : (0 : Int) ≤ (t : Int) := by omega
  have j1 : (t : Int) < (m1.steps.length : Int) := by omega
  have HsC := hide hsC
  clear hsC
  go_wp2_with fail
  clear hw1 hw2
  obtain ⟨wD, hwD⟩ : ∃ W : World, W = (wC.setCell ⟨gs, t, none⟩ (.int .i64 (wrap64 (s + 1)))) := ⟨_, rfl⟩
  have hsD : wD.heap.size = wB.heap.size := by rw [hwD]; simp [HsC.out]
  have ng0' : ¬ gs = w.heap.size := by omega
  have ng2' : ¬ gs = w.heap.size + 1 + 1 := by omega
  have ng3' : ¬ gs = w.heap.size + 1 + 1 + 1 := by omega
  have ng4' : ¬ gs = w1.heap.size := by omega
  have ub0 : wD.cell? ⟨w.heap.size, 0, none⟩ = some (.slice m1.mem.pA m1.mem.hs.length m1.mem.pc) := by rw [hwD]; go_simp
  have ub1 : wD.cell? ⟨w.heap.size, 1, none⟩ = some (.slice m1.mem.vA m1.mem.vs.length m1.mem.vc) := by rw [hwD]; go_simp
  have ub2 : wD.cell? ⟨w.heap.size, 2, none⟩ = some (.slice m1.ln.fA m1.ln.first.length m1.ln.fc) := by rw [hwD]; go_simp
  have ub3 : wD.cell? ⟨w.heap.size, 3, none⟩ = some (.slice m1.ln.lA m1.ln.logs.length m1.ln.lc) := by rw [hwD]; go_simp
  have ub4 : wD.cell? ⟨w.heap.size, 4, none⟩ = some (.map m1.ln.asks) := by rw [hwD]; go_simp
  have ub5 : wD.cell? ⟨w.heap.size, 5, none⟩ = some (.slice (some ⟨gs, 0, none⟩) m1.steps.length sc') := by rw [hwD]; go_simp
  have ub6 : wD.cell? ⟨w.heap.size, 6, none⟩ = some (.int .i64 m1.crashes) := by rw [hwD]; go_simp
  have ur0 : wD.cell? ⟨w.heap.size + 1 + 1, 0, none⟩ = some (.slice none 0 0) := by rw [hwD]; go_simp
  have ur1 : wD.cell? ⟨w.heap.size + 1 + 1, 1, none⟩ = some (.slice none 0 0) := by rw [hwD]; go_simp
  have ur2 : wD.cell? ⟨w.heap.size + 1 + 1, 2, none⟩ = some (.slice none 0 0) := by rw [hwD]; go_simp
  have ur3 : wD.cell? ⟨w.heap.size + 1 + 1, 3, none⟩ = some (.slice none 0 0) := by rw [hwD]; go_simp
  have ur4 : wD.cell? ⟨w.heap.size + 1 + 1, 4, none⟩ = some (.map none) := by rw [hwD]; go_simp
  have ur5 : wD.cell? ⟨w.heap.size + 1 + 1, 5, none⟩ = some (.slice none 0 0) := by rw [hwD]; go_simp
  have ur6 : wD.cell? ⟨w.heap.size + 1 + 1, 6, none⟩ = some (.int .i64 0) := by rw [hwD]; go_simp
  have ug0 : wD.cell? ⟨w.heap.size + 1 + 1 + 1, 0, none⟩ = some (.int .i64 0) := by rw [hwD]; go_simp
  have ug1 : wD.cell? ⟨w.heap.size + 1 + 1 + 1, 1, none⟩ = some (.int .u32 0) := by rw [hwD]; go_simp
  have ug2 : wD.cell? ⟨w.heap.size + 1 + 1 + 1, 2, none⟩ = some (.int .u32 0) := by rw [hwD]; go_simp
  have ug3 : wD.cell? ⟨w.heap.size + 1 + 1 + 1, 3, none⟩ = some (.bool false) := by rw [hwD]; go_simp
  have ux0 : wD.cell? ⟨w1.heap.size, 0, none⟩ = some (.int .i64 x.v) := by rw [hwD]; go_simp
  have ux1 : wD.cell? ⟨w1.heap.size, 1, none⟩ = some (.int .u32 x.r) := by rw [hwD]; go_simp
  have ux2 : wD.cell? ⟨w1.heap.size, 2, none⟩ = some (.int .u32 x.f) := by rw [hwD]; go_simp
  have ux3 : wD.cell? ⟨w1.heap.size, 3, none⟩ = some (.bool ok) := by rw [hwD]; go_simp
  have ufr : ∀ o, wD.frozen? ⟨w.heap.size + 1 + 1, o, none⟩ = false := by intro o; rw [hwD]; go_simp
  have ufg : ∀ o, wD.frozen? ⟨w.heap.size + 1 + 1 + 1, o, none⟩ = false := by intro o; rw [hwD]; go_simp
  have hRD : MachV.R wD m1 := by rw [hwD]; exact MachV.R.set HRC.out (MachV.off_new HRA.out (by omega)) (.of kc) _
  have hrD : Rd wD wD.heap.size 1 (some ⟨gs, 0, none⟩) m1.steps.length ((m1.steps.set t (wrap64 (s + 1))).map (Value.int .i64)) := by
    rw [hwD, List.map_set]
    have h := Rd.setAt HrsC.out (i := t) (by rw [List.length_map]; omega) (.int .i64 (wrap64 (s + 1)))
    rw [Nat.zero_add] at h
    exact Rd.more h (by simp)
  have HM2 : Hid (MachV.R wD (m1.stepped gs sc' t (wrap64 (s + 1)))) := hide ⟨hRD.1, hRD.2.1, (by show (m1.steps.set t _).length ≤ sc'; rw [List.length_set]; exact hsc), (fun e => by cases e), (by show Rd wD wD.heap.size 1 (some ⟨gs, 0, none⟩) (m1.steps.set t _).length _; rw [List.length_set]; exact hrD)⟩
  have hBD : Below w.heap.size w wD := by rw [hwD]; exact hBC.setCell (p := ⟨gs, t, none⟩) (by show w.heap.size ≤ gs; omega) _
  have oR2 : MachV.off (w.heap.size + 1 + 1) (m1.stepped gs sc' t (wrap64 (s + 1))) := ⟨aoR.1, aoR.2.1, OffC.at (by omega)⟩
  have oG2 : MachV.off (w.heap.size + 1 + 1 + 1) (m1.stepped gs sc' t (wrap64 (s + 1))) := ⟨aoG.1, aoG.2.1, OffC.at (by omega)⟩
  rw [← hwD]
  clear hwD kc kfs hRD hrD hsD kb0 kb1 kb2 kb3 kb4 kb5 kb6 kr0 kr1 kr2 kr3 kr4 kr5 kr6 kg0 kg1 kg2 kg3 kx0 kx1 kx2 kx3 kfr kfg
  refine wp_region_held_drew (S := (fun w' => (w'.cell? ⟨w.heap.size, 0, none⟩ = some (.slice m1.mem.pA m1.mem.hs.length m1.mem.pc) ∧ w'.cell? ⟨w.heap.size, 1, none⟩ = some (.slice m1.mem.vA m1.mem.vs.length m1.mem.vc) ∧ w'.cell? ⟨w.heap.size, 2, none⟩ = some (.slice m1.ln.fA m1.ln.first.length m1.ln.fc) ∧ w'.cell? ⟨w.heap.size, 3, none⟩ = some (.slice m1.ln.lA m1.ln.logs.length m1.ln.lc) ∧ w'.cell? ⟨w.heap.size, 4, none⟩ = some (.map m1.ln.asks) ∧ w'.cell? ⟨w.heap.size, 5, none⟩ = some (.slice (some ⟨gs, 0, none⟩) m1.steps.length sc') ∧ w'.cell? ⟨w.heap.size, 6, none⟩ = some (.int .i64 m1.crashes)) ∧ (w'.cell? ⟨w1.heap.size, 0, none⟩ = some (.int .i64 x.v) ∧ w'.cell? ⟨w1.heap.size, 1, none⟩ = some (.int .u32 x.r) ∧ w'.cell? ⟨w1.heap.size, 2, none⟩ = some (.int .u32 x.f) ∧ w'.cell? ⟨w1.heap.size, 3, none⟩ = some (.bool ok)))) (by kernel_rfl) (by first | with_reducible exact ⟨⟨ub0, ub1, ub2, ub3, ub4, ub5, ub6⟩, ux0, ux1, ux2, ux3⟩ | exact ⟨⟨by go_simp, by go_simp, by go_simp, by go_simp, by go_simp, by go_simp, by go_simp⟩, by go_simp, by go_simp, by go_simp, by go_simp⟩) (fun hHeld => ?_)
  refine wpAnyH_take (i := 0) (v := ?_) (oi := { dst := some 83, op := Op.load 42 (Operand.tmp 4), type := 42, pos := "machine.go:130", after := #[], guard := none }) (by rfl) (by kernel_rfl) (by kernel_rfl) (by kernel_rfl) (fun _ _ _ h => h) (Or.inl ⟨by rfl, ?_⟩) (by assumption) ?_; rotate_left; focus (intro wTk hSw; (try dsimp only at hSw); go_simp; (try with_reducible rfl); done)
  (try simp only [Act.put, List.setIfInBounds_toArray, List.set_cons_zero, List.set_cons_succ])
  refine wpAnyH_take (i := 1) (v := ?_) (oi := { dst := some 84, op := Op.load 106 (Operand.tmp 12), type := 106, pos := "machine.go:130", after := #[{ on := 2, ground := Ground.gcOnly Departure.lateStores }], guard := none }) (by rfl) (by kernel_rfl) (by kernel_rfl) (by kernel_rfl) (fun _ _ _ h => h) (Or.inl ⟨by rfl, ?_⟩) (by assumption) ?_; rotate_left; focus (intro wTk hSw; (try dsimp only at hSw); go_simp; (try with_reducible rfl); done)
  (try simp only [Act.put, List.setIfInBounds_toArray, List.set_cons_zero, List.set_cons_succ])
  refine wpAnyH_ready (rs := [2]) (by kernel_rfl) (by simp) ?_
  refine AllReadyH.cons (o := { dst := none, op := Op.store 42 (Operand.tmp 8) (Operand.tmp 83), type := 0, pos := "machine.go:130", after := #[{ on := 0, ground := Ground.data }, { on := 0, ground := Ground.phase }, { on := 1, ground := Ground.textOnly Departure.lateStores }], guard := none }) (by rfl) (fun K hK => ?_) (AllReadyH.nil)
  go_simp
  skip
  go_wp2_with fail
  refine hK.out _ _ (by first | with_reducible exact ⟨⟨ub0, ub1, ub2, ub3, ub4, ub5, ub6⟩, ux0, ux1, ux2, ux3⟩ | exact ⟨⟨by go_simp, by go_simp, by go_simp, by go_simp, by go_simp, by go_simp, by go_simp⟩, by go_simp, by go_simp, by go_simp, by go_simp⟩) (fun hHeld => ?_)
  clear hK K
  (try simp only [Act.put, List.setIfInBounds_toArray, List.set_cons_zero, List.set_cons_succ])
  refine wpAnyH_ready (rs := [3]) (by kernel_rfl) (by simp) ?_
  refine AllReadyH.cons (o := { dst := none, op := Op.store 106 (Operand.tmp 9) (Operand.tmp 84), type := 0, pos := "machine.go:130", after := #[{ on := 1, ground := Ground.data }, { on := 2, ground := Ground.chain }, { on := 0, ground := Ground.phase }, { on := 1, ground := Ground.phase }, { on := 2, ground := Ground.phase }], guard := none }) (by rfl) (fun K hK => ?_) (AllReadyH.nil)
  go_simp
  skip
  go_wp2_with fail
  refine hK.out _ _ (by first | with_reducible exact ⟨⟨ub0, ub1, ub2, ub3, ub4, ub5, ub6⟩, ux0, ux1, ux2, ux3⟩ | exact ⟨⟨by go_simp, by go_simp, by go_simp, by go_simp, by go_simp, by go_simp, by go_simp⟩, by go_simp, by go_simp, by go_simp, by go_simp⟩) (fun hHeld => ?_)
  clear hK K
  (try simp only [Act.put, List.setIfInBounds_toArray, List.set_cons_zero, List.set_cons_succ])
  refine wpAnyH_take (i := 4) (v := ?_) (oi := { dst := some 10, op := Op.assign (Operand.const (Value.int IntKind.i64 0)), type := 52, pos := "machine.go:130", after := #[{ on := 3, ground := Ground.chain }, { on := 0, ground := Ground.phase }, { on := 1, ground := Ground.phase }, { on := 2, ground := Ground.phase }, { on := 3, ground := Ground.phase }], guard := none }) (by rfl) (by kernel_rfl) (by kernel_rfl) (by kernel_rfl) (fun _ _ _ h => h) (Or.inl ⟨by rfl, ?_⟩) (by assumption) ?_; rotate_left; focus (intro wTk hSw; (try dsimp only at hSw); go_simp; (try with_reducible rfl); done)
  (try simp only [Act.put, List.setIfInBounds_toArray, List.set_cons_zero, List.set_cons_succ])
  refine wpAnyH_done (by kernel_rfl) ?_ _
  all_goals go_wp2_with fail
  all_goals have HZ := hide (MachV.R.set (MachV.R.set (MachV.R.set (MachV.R.set (MachV.R.set (MachV.R.set (MachV.R.set (MachV.R.set (MachV.R.set (MachV.R.set (MachV.R.set HM2.out oR2 (.of ur0) (.slice m1.mem.pA m1.mem.hs.length m1.mem.pc)) oR2 (.set (.of ur1) _) (.slice m1.mem.vA m1.mem.vs.length m1.mem.vc)) oR2 (.set (.set (.of ur2) _) _) (.slice m1.ln.fA m1.ln.first.length m1.ln.fc)) oR2 (.set (.set (.set (.of ur3) _) _) _) (.slice m1.ln.lA m1.ln.logs.length m1.ln.lc)) oR2 (.set (.set (.set (.set (.of ur4) _) _) _) _) (.map m1.ln.asks)) oR2 (.set (.set (.set (.set (.set (.of ur5) _) _) _) _) _) (.slice (some ⟨gs, 0, none⟩) m1.steps.length sc')) oR2 (.set (.set (.set (.set (.set (.set (.of ur6) _) _) _) _) _) _) (.int .i64 m1.crashes)) oG2 (.set (.set (.set (.set (.set (.set (.set (.of ug0) _) _) _) _) _) _) _) (.int .i64 x.v)) oG2 (.set (.set (.set (.set (.set (.set (.set (.set (.of ug1) _) _) _) _) _) _) _) _) (.int .u32 x.r)) oG2 (.set (.set (.set (.set (.set (.set (.set (.set (.set (.of ug2) _) _) _) _) _) _) _) _) _) (.int .u32 x.f)) oG2 (.set (.set (.set (.set (.set (.set (.set (.set (.set (.set (.of ug3) _) _) _) _) _) _) _) _) _) _) (.bool ok))
  all_goals have HB := hide (Below.setCell (Below.setCell (Below.setCell (Below.setCell (Below.setCell (Below.setCell (Below.setCell (Below.setCell (Below.setCell (Below.setCell (Below.setCell hBD (p := ⟨w.heap.size + 1 + 1, 0, none⟩) (by show w.heap.size ≤ w.heap.size + 1 + 1; omega) (.slice m1.mem.pA m1.mem.hs.length m1.mem.pc)) (p := ⟨w.heap.size + 1 + 1, 1, none⟩) (by show w.heap.size ≤ w.heap.size + 1 + 1; omega) (.slice m1.mem.vA m1.mem.vs.length m1.mem.vc)) (p := ⟨w.heap.size + 1 + 1, 2, none⟩) (by show w.heap.size ≤ w.heap.size + 1 + 1; omega) (.slice m1.ln.fA m1.ln.first.length m1.ln.fc)) (p := ⟨w.heap.size + 1 + 1, 3, none⟩) (by show w.heap.size ≤ w.heap.size + 1 + 1; omega) (.slice m1.ln.lA m1.ln.logs.length m1.ln.lc)) (p := ⟨w.heap.size + 1 + 1, 4, none⟩) (by show w.heap.size ≤ w.heap.size + 1 + 1; omega) (.map m1.ln.asks)) (p := ⟨w.heap.size + 1 + 1, 5, none⟩) (by show w.heap.size ≤ w.heap.size + 1 + 1; omega) (.slice (some ⟨gs, 0, none⟩) m1.steps.length sc')) (p := ⟨w.heap.size + 1 + 1, 6, none⟩) (by show w.heap.size ≤ w.heap.size + 1 + 1; omega) (.int .i64 m1.crashes)) (p := ⟨w.heap.size + 1 + 1 + 1, 0, none⟩) (by show w.heap.size ≤ w.heap.size + 1 + 1 + 1; omega) (.int .i64 x.v)) (p := ⟨w.heap.size + 1 + 1 + 1, 1, none⟩) (by show w.heap.size ≤ w.heap.size + 1 + 1 + 1; omega) (.int .u32 x.r)) (p := ⟨w.heap.size + 1 + 1 + 1, 2, none⟩) (by show w.heap.size ≤ w.heap.size + 1 + 1 + 1; omega) (.int .u32 x.f)) (p := ⟨w.heap.size + 1 + 1 + 1, 3, none⟩) (by show w.heap.size ≤ w.heap.size + 1 + 1 + 1; omega) (.bool ok))
  all_goals have hLs : (m1.steps.set t (wrap64 (s + 1))).length = m1.steps.length := List.length_set
  all_goals refine bodyPost_ret (v := .tuple #[.agg #[.slice m1.mem.pA m1.mem.hs.length m1.mem.pc, .slice m1.mem.vA m1.mem.vs.length m1.mem.vc, .slice m1.ln.fA m1.ln.first.length m1.ln.fc, .slice m1.ln.lA m1.ln.logs.length m1.ln.lc, .map m1.ln.asks, .slice (some ⟨gs, 0, none⟩) m1.steps.length sc', .int .i64 m1.crashes], .agg #[.int .i64 x.v, .int .u32 x.r, .int .u32 x.f, .bool ok], .int .i64 0]) (by simp [results, Tryz.results108, go_sem]; (try go_simp)) rfl ⟨m1, x, ok, gs, sc', (by simp only [MachV.stepped, hLs]), aE.out, ?_, (fun C hC hm => ⟨(aoff.out C hC hm).1, (aoff.out C hC hm).2.1, OffC.at (by omega)⟩), ?_⟩
  all_goals first
    | with_reducible exact HZ.out
    | with_reducible exact HZ.out.drew
    | with_reducible exact HB.out
    | with_reducible exact HB.out.drew
set_option maxHeartbeats 8000000 in
set_option maxRecDepth 100000 in
theorem mach_do_write (m : MachV) (t : Nat) (s ch : Int) (act : ActV) (w : World) (E : MachV → W3 → Bool → Prop) (hR : m.R w) (ht : t < m.mem.vs.length) (hn : m.mem.vs.length ≤ 1000) (hs : m.steps[t]? = some s) (hs6 : m.steps.length ≤ 1000) (hop : act.op = 3 ∨ act.op = 4 ∨ act.op = 6) (hat : 0 ≤ act.at_ ∧ act.at_ < (m.mem.hs.length : Int)) (hin : ∀ W, m.R W → Calls Tryz.prog 130 #[(.agg #[.slice (m).mem.pA (m).mem.hs.length (m).mem.pc, .slice (m).mem.vA (m).mem.vs.length (m).mem.vc, .slice (m).ln.fA (m).ln.first.length (m).ln.fc, .slice (m).ln.lA (m).ln.logs.length (m).ln.lc, .map (m).ln.asks, .slice (m).sA (m).steps.length (m).sc, .int .i64 (m).crashes]), .int .i64 ((t : Int) + 1), (.agg #[.int .i64 (act).op, .int .i64 (act).at_, .int .i64 (act).old.v, .int .u32 (act).old.r, .int .u32 (act).old.f, .int .i64 (act).new.v, .int .u32 (act).new.r, .int .u32 (act).new.f])] W (Inner m E W)) :
  Calls Tryz.prog 108 #[(.agg #[.slice (m).mem.pA (m).mem.hs.length (m).mem.pc, .slice (m).mem.vA (m).mem.vs.length (m).mem.vc, .slice (m).ln.fA (m).ln.first.length (m).ln.fc, .slice (m).ln.lA (m).ln.logs.length (m).ln.lc, .map (m).ln.asks, .slice (m).sA (m).steps.length (m).sc, .int .i64 (m).crashes]), .int .i64 ((t : Int) + 1), (.agg #[.int .i64 (act).op, .int .i64 (act).at_, .int .i64 (act).old.v, .int .u32 (act).old.r, .int .u32 (act).old.f, .int .i64 (act).new.v, .int .u32 (act).new.r, .int .u32 (act).new.f]), .int .i64 ch] w fun e w' => ∃ (m1 : MachV) (x : W3) (ok : Bool) (gs sc' : Nat), e = .returned (.tuple #[(.agg #[.slice ((m1.stepped gs sc' t (wrap64 (s + 1)))).mem.pA ((m1.stepped gs sc' t (wrap64 (s + 1)))).mem.hs.length ((m1.stepped gs sc' t (wrap64 (s + 1)))).mem.pc, .slice ((m1.stepped gs sc' t (wrap64 (s + 1)))).mem.vA ((m1.stepped gs sc' t (wrap64 (s + 1)))).mem.vs.length ((m1.stepped gs sc' t (wrap64 (s + 1)))).mem.vc, .slice ((m1.stepped gs sc' t (wrap64 (s + 1)))).ln.fA ((m1.stepped gs sc' t (wrap64 (s + 1)))).ln.first.length ((m1.stepped gs sc' t (wrap64 (s + 1)))).ln.fc, .slice ((m1.stepped gs sc' t (wrap64 (s + 1)))).ln.lA ((m1.stepped gs sc' t (wrap64 (s + 1)))).ln.logs.length ((m1.stepped gs sc' t (wrap64 (s + 1)))).ln.lc, .map ((m1.stepped gs sc' t (wrap64 (s + 1)))).ln.asks, .slice ((m1.stepped gs sc' t (wrap64 (s + 1)))).sA ((m1.stepped gs sc' t (wrap64 (s + 1)))).steps.length ((m1.stepped gs sc' t (wrap64 (s + 1)))).sc, .int .i64 ((m1.stepped gs sc' t (wrap64 (s + 1)))).crashes]), (.agg #[.int .i64 (x).v, .int .u32 (x).r, .int .u32 (x).f, .bool ok]), .int .i64 0]) ∧ E m1 x ok ∧ MachV.R w' (m1.stepped gs sc' t (wrap64 (s + 1))) ∧ (∀ C, C < w.heap.size → m.off C → MachV.off C (m1.stepped gs sc' t (wrap64 (s + 1)))) ∧ Below w.heap.size w w' := by
  have hgood : act.good m.mem.hs.length := ⟨by omega, by omega, .inr (.inr hat)⟩
  have hts : t < m.steps.length := (List.getElem?_eq_some_iff.1 hs).1
  have hchk := fun W => mach_check m t act W ht hgood
  have Hchk := hide hchk
  have HR := hide hR
  have HS := hide hs
  clear hchk hR hs hgood
  have hchg := fun W => mach_changes act W
  rw [show (decide (act.op = 3) || decide (act.op = 4) || decide (act.op = 6)) = true by rcases hop with h | h | h <;> rw [h] <;> decide] at hchg
  have Hchg := hide hchg
  have Hin := hide hin
  have k7 : ¬ act.op = 7 := by omega
  have k8 : ¬ act.op = 8 := by omega
  have k0 : ¬ act.op = 0 := by omega
  clear hchg hin hop hat
  go_enter Tryz.func108, Tryz.ntmps108
  go_upto_region 13 with (first
    | (go_at_call 129; refine (Hchk.out _).mono ?_; rintro e w1 ⟨rfl, hb1⟩; obtain ⟨hcc1, hff1⟩ := bcell hb1; have hs1 := hb1.size; (try simp at hs1); have hz10 : w.heap.size < w1.heap.size := (by omega); have hz11 : w.heap.size + 1 < w1.heap.size := (by omega); have hz12 : w.heap.size + 1 + 1 < w1.heap.size := (by omega); have hz13 : w.heap.size + 1 + 1 + 1 < w1.heap.size := (by omega))
    | (go_at_call 10; refine (Hchg.out _).mono ?_; rintro e w2 ⟨rfl, hb2⟩; obtain ⟨hcc2, hff2⟩ := bcell hb2; have hs2 := hb2.size; (try simp at hs2); have hz20 : w.heap.size < w2.heap.size := (by omega); have hz21 : w.heap.size + 1 < w2.heap.size := (by omega); have hz22 : w.heap.size + 1 + 1 < w2.heap.size := (by omega); have hz23 : w.heap.size + 1 + 1 + 1 < w2.heap.size := (by omega); have hz24 : w1.heap.size < w2.heap.size := (by omega))
    | (go_at_call 130; refine (Hin.out _ (HR.out.below (by repeat' (first | with_reducible exact Below.refl _ _ | with_reducible assumption | with_reducible refine Below.alloc ?_ ?_ _ | with_reducible refine Below.setCell ?_ ?_ _ | with_reducible refine Below.drew ?_ | with_reducible refine below_drewN ?_ _ | with_reducible refine Below.trans ?_ (Below.mono (by with_reducible assumption) ?_) | omega | (simp <;> omega))))).mono ?_; rintro e w3 ⟨m1, x, ok, rfl, hE1, ⟨he1, he2, he3, he4⟩, hR3, hoff3, hb3⟩; obtain ⟨hcc3, hff3⟩ := bcell hb3; have hs3 := hb3.size; (try simp at hs3); have HE1 := hide hE1; have He3 := hide he3; have HR3 := hide hR3; have Hoff3 := hide hoff3; clear hE1 he1 he2 he3 he4 hR3 hoff3; have hz30 : w.heap.size < w3.heap.size := (by omega); have hz31 : w.heap.size + 1 < w3.heap.size := (by omega); have hz32 : w.heap.size + 1 + 1 < w3.heap.size := (by omega); have hz33 : w.heap.size + 1 + 1 + 1 < w3.heap.size := (by omega); have hz34 : w1.heap.size < w3.heap.size := (by omega)))
  have ob0 : w3.cell? ⟨w.heap.size, 0, none⟩ = some (.slice m.mem.pA m.mem.hs.length m.mem.pc) := by go_simp
  have ob1 : w3.cell? ⟨w.heap.size, 1, none⟩ = some (.slice m.mem.vA m.mem.vs.length m.mem.vc) := by go_simp
  have ob2 : w3.cell? ⟨w.heap.size, 2, none⟩ = some (.slice m.ln.fA m.ln.first.length m.ln.fc) := by go_simp
  have ob3 : w3.cell? ⟨w.heap.size, 3, none⟩ = some (.slice m.ln.lA m.ln.logs.length m.ln.lc) := by go_simp
  have ob4 : w3.cell? ⟨w.heap.size, 4, none⟩ = some (.map m.ln.asks) := by go_simp
  have ob5 : w3.cell? ⟨w.heap.size, 5, none⟩ = some (.slice m.sA m.steps.length m.sc) := by go_simp
  have ob6 : w3.cell? ⟨w.heap.size, 6, none⟩ = some (.int .i64 m.crashes) := by go_simp
  have or0 : w3.cell? ⟨w.heap.size + 1 + 1, 0, none⟩ = some (.slice none 0 0) := by go_simp
  have or1 : w3.cell? ⟨w.heap.size + 1 + 1, 1, none⟩ = some (.slice none 0 0) := by go_simp
  have or2 : w3.cell? ⟨w.heap.size + 1 + 1, 2, none⟩ = some (.slice none 0 0) := by go_simp
  have or3 : w3.cell? ⟨w.heap.size + 1 + 1, 3, none⟩ = some (.slice none 0 0) := by go_simp
  have or4 : w3.cell? ⟨w.heap.size + 1 + 1, 4, none⟩ = some (.map none) := by go_simp
  have or5 : w3.cell? ⟨w.heap.size + 1 + 1, 5, none⟩ = some (.slice none 0 0) := by go_simp
  have or6 : w3.cell? ⟨w.heap.size + 1 + 1, 6, none⟩ = some (.int .i64 0) := by go_simp
  have og0 : w3.cell? ⟨w.heap.size + 1 + 1 + 1, 0, none⟩ = some (.int .i64 0) := by go_simp
  have og1 : w3.cell? ⟨w.heap.size + 1 + 1 + 1, 1, none⟩ = some (.int .u32 0) := by go_simp
  have og2 : w3.cell? ⟨w.heap.size + 1 + 1 + 1, 2, none⟩ = some (.int .u32 0) := by go_simp
  have og3 : w3.cell? ⟨w.heap.size + 1 + 1 + 1, 3, none⟩ = some (.bool false) := by go_simp
  have ox0 : w3.cell? ⟨w1.heap.size, 0, none⟩ = some (.int .i64 0) := by go_simp
  have ox1 : w3.cell? ⟨w1.heap.size, 1, none⟩ = some (.int .u32 0) := by go_simp
  have ox2 : w3.cell? ⟨w1.heap.size, 2, none⟩ = some (.int .u32 0) := by go_simp
  have ox3 : w3.cell? ⟨w1.heap.size, 3, none⟩ = some (.bool true) := by go_simp
  have ofb : ∀ o, w3.frozen? ⟨w.heap.size, o, none⟩ = false := by intro o; go_simp
  have ofr : ∀ o, w3.frozen? ⟨w.heap.size + 1 + 1, o, none⟩ = false := by intro o; go_simp
  have ofg : ∀ o, w3.frozen? ⟨w.heap.size + 1 + 1 + 1, o, none⟩ = false := by intro o; go_simp
  have hB3 : Below w.heap.size w w3 := (by repeat' (first | with_reducible exact Below.refl _ _ | with_reducible assumption | with_reducible refine Below.alloc ?_ ?_ _ | with_reducible refine Below.setCell ?_ ?_ _ | with_reducible refine Below.drew ?_ | with_reducible refine below_drewN ?_ _ | with_reducible refine Below.trans ?_ (Below.mono (by with_reducible assumption) ?_) | omega | (simp <;> omega)))
  clear hcc1 hff1 hb1 hcc2 hff2 hb2 hcc3 hff3
  obtain ⟨wA, hwA⟩ : ∃ W : World, W = (((((((((((w3.setCell ⟨w.heap.size, 0, none⟩ (.slice m1.mem.pA m1.mem.hs.length m1.mem.pc)).setCell ⟨w.heap.size, 1, none⟩ (.slice m1.mem.vA m1.mem.vs.length m1.mem.vc)).setCell ⟨w.heap.size, 2, none⟩ (.slice m1.ln.fA m1.ln.first.length m1.ln.fc)).setCell ⟨w.heap.size, 3, none⟩ (.slice m1.ln.lA m1.ln.logs.length m1.ln.lc)).setCell ⟨w.heap.size, 4, none⟩ (.map m1.ln.asks)).setCell ⟨w.heap.size, 5, none⟩ (.slice m1.sA m1.steps.length m1.sc)).setCell ⟨w.heap.size, 6, none⟩ (.int .i64 m1.crashes)).setCell ⟨w1.heap.size, 0, none⟩ (.int .i64 x.v)).setCell ⟨w1.heap.size, 1, none⟩ (.int .u32 x.r)).setCell ⟨w1.heap.size, 2, none⟩ (.int .u32 x.f)).setCell ⟨w1.heap.size, 3, none⟩ (.bool ok)) := ⟨_, rfl⟩
  have hsA : wA.heap.size = w3.heap.size := by rw [hwA]; simp
  have n41 : ¬ w.heap.size = w1.heap.size := by omega
  have n42 : ¬ w.heap.size + 1 + 1 = w1.heap.size := by omega
  have n43 : ¬ w.heap.size + 1 + 1 + 1 = w1.heap.size := by omega
  have n44 : ¬ w1.heap.size = w.heap.size := by omega
  have ab0 : wA.cell? ⟨w.heap.size, 0, none⟩ = some (.slice m1.mem.pA m1.mem.hs.length m1.mem.pc) := by rw [hwA]; go_simp
  have ab1 : wA.cell? ⟨w.heap.size, 1, none⟩ = some (.slice m1.mem.vA m1.mem.vs.length m1.mem.vc) := by rw [hwA]; go_simp
  have ab2 : wA.cell? ⟨w.heap.size, 2, none⟩ = some (.slice m1.ln.fA m1.ln.first.length m1.ln.fc) := by rw [hwA]; go_simp
  have ab3 : wA.cell? ⟨w.heap.size, 3, none⟩ = some (.slice m1.ln.lA m1.ln.logs.length m1.ln.lc) := by rw [hwA]; go_simp
  have ab4 : wA.cell? ⟨w.heap.size, 4, none⟩ = some (.map m1.ln.asks) := by rw [hwA]; go_simp
  have ab5 : wA.cell? ⟨w.heap.size, 5, none⟩ = some (.slice m1.sA m1.steps.length m1.sc) := by rw [hwA]; go_simp
  have ab6 : wA.cell? ⟨w.heap.size, 6, none⟩ = some (.int .i64 m1.crashes) := by rw [hwA]; go_simp
  have ar0 : wA.cell? ⟨w.heap.size + 1 + 1, 0, none⟩ = some (.slice none 0 0) := by rw [hwA]; go_simp
  have ar1 : wA.cell? ⟨w.heap.size + 1 + 1, 1, none⟩ = some (.slice none 0 0) := by rw [hwA]; go_simp
  have ar2 : wA.cell? ⟨w.heap.size + 1 + 1, 2, none⟩ = some (.slice none 0 0) := by rw [hwA]; go_simp
  have ar3 : wA.cell? ⟨w.heap.size + 1 + 1, 3, none⟩ = some (.slice none 0 0) := by rw [hwA]; go_simp
  have ar4 : wA.cell? ⟨w.heap.size + 1 + 1, 4, none⟩ = some (.map none) := by rw [hwA]; go_simp
  have ar5 : wA.cell? ⟨w.heap.size + 1 + 1, 5, none⟩ = some (.slice none 0 0) := by rw [hwA]; go_simp
  have ar6 : wA.cell? ⟨w.heap.size + 1 + 1, 6, none⟩ = some (.int .i64 0) := by rw [hwA]; go_simp
  have ag0 : wA.cell? ⟨w.heap.size + 1 + 1 + 1, 0, none⟩ = some (.int .i64 0) := by rw [hwA]; go_simp
  have ag1 : wA.cell? ⟨w.heap.size + 1 + 1 + 1, 1, none⟩ = some (.int .u32 0) := by rw [hwA]; go_simp
  have ag2 : wA.cell? ⟨w.heap.size + 1 + 1 + 1, 2, none⟩ = some (.int .u32 0) := by rw [hwA]; go_simp
  have ag3 : wA.cell? ⟨w.heap.size + 1 + 1 + 1, 3, none⟩ = some (.bool false) := by rw [hwA]; go_simp
  have ax0 : wA.cell? ⟨w1.heap.size, 0, none⟩ = some (.int .i64 x.v) := by rw [hwA]; go_simp
  have ax1 : wA.cell? ⟨w1.heap.size, 1, none⟩ = some (.int .u32 x.r) := by rw [hwA]; go_simp
  have ax2 : wA.cell? ⟨w1.heap.size, 2, none⟩ = some (.int .u32 x.f) := by rw [hwA]; go_simp
  have ax3 : wA.cell? ⟨w1.heap.size, 3, none⟩ = some (.bool ok) := by rw [hwA]; go_simp
  have afb : ∀ o, wA.frozen? ⟨w.heap.size, o, none⟩ = false := by intro o; rw [hwA]; go_simp
  have afr : ∀ o, wA.frozen? ⟨w.heap.size + 1 + 1, o, none⟩ = false := by intro o; rw [hwA]; go_simp
  have afg : ∀ o, wA.frozen? ⟨w.heap.size + 1 + 1 + 1, o, none⟩ = false := by intro o; rw [hwA]; go_simp
  have aoB : MachV.off (w.heap.size) m1 := Hoff3.out _ (by first | omega | (simp; done) | (simp; omega)) (MachV.off_new HR.out (by omega))
  have aoR : MachV.off (w.heap.size + 1 + 1) m1 := Hoff3.out _ (by first | omega | (simp; done) | (simp; omega)) (MachV.off_new HR.out (by omega))
  have aoG : MachV.off (w.heap.size + 1 + 1 + 1) m1 := Hoff3.out _ (by first | omega | (simp; done) | (simp; omega)) (MachV.off_new HR.out (by omega))
  have aoX : MachV.off (w1.heap.size) m1 := Hoff3.out _ (by first | omega | (simp; done) | (simp; omega)) (MachV.off_new HR.out (by omega))
  have HRA : Hid (MachV.R wA m1) := hide (by rw [hwA]; exact (MachV.R.set (MachV.R.set (MachV.R.set (MachV.R.set (MachV.R.set (MachV.R.set (MachV.R.set (MachV.R.set (MachV.R.set (MachV.R.set (MachV.R.set HR3.out aoB (.of ob0) (.slice m1.mem.pA m1.mem.hs.length m1.mem.pc)) aoB (.set (.of ob1) _) (.slice m1.mem.vA m1.mem.vs.length m1.mem.vc)) aoB (.set (.set (.of ob2) _) _) (.slice m1.ln.fA m1.ln.first.length m1.ln.fc)) aoB (.set (.set (.set (.of ob3) _) _) _) (.slice m1.ln.lA m1.ln.logs.length m1.ln.lc)) aoB (.set (.set (.set (.set (.of ob4) _) _) _) _) (.map m1.ln.asks)) aoB (.set (.set (.set (.set (.set (.of ob5) _) _) _) _) _) (.slice m1.sA m1.steps.length m1.sc)) aoB (.set (.set (.set (.set (.set (.set (.of ob6) _) _) _) _) _) _) (.int .i64 m1.crashes)) aoX (.set (.set (.set (.set (.set (.set (.set (.of ox0) _) _) _) _) _) _) _) (.int .i64 x.v)) aoX (.set (.set (.set (.set (.set (.set (.set (.set (.of ox1) _) _) _) _) _) _) _) _) (.int .u32 x.r)) aoX (.set (.set (.set (.set (.set (.set (.set (.set (.set (.of ox2) _) _) _) _) _) _) _) _) _) (.int .u32 x.f)) aoX (.set (.set (.set (.set (.set (.set (.set (.set (.set (.set (.of ox3) _) _) _) _) _) _) _) _) _) _) (.bool ok)))
  have hBA : Below w.heap.size w wA := by rw [hwA]; exact (Below.setCell (Below.setCell (Below.setCell (Below.setCell (Below.setCell (Below.setCell (Below.setCell (Below.setCell (Below.setCell (Below.setCell (Below.setCell hB3 (p := ⟨w.heap.size, 0, none⟩) (by show w.heap.size ≤ w.heap.size; omega) (.slice m1.mem.pA m1.mem.hs.length m1.mem.pc)) (p := ⟨w.heap.size, 1, none⟩) (by show w.heap.size ≤ w.heap.size; omega) (.slice m1.mem.vA m1.mem.vs.length m1.mem.vc)) (p := ⟨w.heap.size, 2, none⟩) (by show w.heap.size ≤ w.heap.size; omega) (.slice m1.ln.fA m1.ln.first.length m1.ln.fc)) (p := ⟨w.heap.size, 3, none⟩) (by show w.heap.size ≤ w.heap.size; omega) (.slice m1.ln.lA m1.ln.logs.length m1.ln.lc)) (p := ⟨w.heap.size, 4, none⟩) (by show w.heap.size ≤ w.heap.size; omega) (.map m1.ln.asks)) (p := ⟨w.heap.size, 5, none⟩) (by show w.heap.size ≤ w.heap.size; omega) (.slice m1.sA m1.steps.length m1.sc)) (p := ⟨w.heap.size, 6, none⟩) (by show w.heap.size ≤ w.heap.size; omega) (.int .i64 m1.crashes)) (p := ⟨w1.heap.size, 0, none⟩) (by show w.heap.size ≤ w1.heap.size; omega) (.int .i64 x.v)) (p := ⟨w1.heap.size, 1, none⟩) (by show w.heap.size ≤ w1.heap.size; omega) (.int .u32 x.r)) (p := ⟨w1.heap.size, 2, none⟩) (by show w.heap.size ≤ w1.heap.size; omega) (.int .u32 x.f)) (p := ⟨w1.heap.size, 3, none⟩) (by show w.heap.size ≤ w1.heap.size; omega) (.bool ok))
  have aoff : Hid (∀ C, C < w.heap.size → m.off C → m1.off C) := hide (fun C hC h => Hoff3.out C (by first | omega | (simp; done) | (simp; omega)) h)
  have HS1 : Hid (m1.steps[t]? = some s) := hide (by rw [He3.out]; exact HS.out)
  have hts1 : t < m1.steps.length := by rw [He3.out]; exact hts
  have hl6 : m1.steps.length ≤ 1000 := by rw [He3.out]; exact hs6
  have azb : w.heap.size < wA.heap.size := by omega
  have azr : w.heap.size + 1 + 1 < wA.heap.size := by omega
  have azg : w.heap.size + 1 + 1 + 1 < wA.heap.size := by omega
  have azx : w1.heap.size < wA.heap.size := by omega
  have hsA3 : w3.heap.size ≤ wA.heap.size := by omega
  have aE := HE1
  rw [← hwA]
  clear hwA hsA hb3 ob0 ob1 ob2 ob3 ob4 ob5 ob6 or0 or1 or2 or3 or4 or5 or6 og0 og1 og2 og3 ox0 ox1 ox2 ox3 ofb ofr ofg
  have hcl := clone_I m1.sA m1.steps.length m1.sc (m1.steps.map (Value.int .i64)) wA HRA.out.2.2.2.2 HRA.out.2.2.2.1 (ones_int _) (by omega)
  have Hcl := hide hcl
  clear hcl
  go_upto_region 14 with (first
    | (go_at_call 106; refine Hcl.out.mono ?_; rintro e wB ⟨A', sc', rfl, how, hbB⟩; obtain ⟨gs, sc2, hA1, hsc, hgs, hrs⟩ := own_some how (by omega); injection hA1 with hA1 _ hA2; subst hA1 hA2; have Hcs := hide (own_cells how).1; have hfs := (own_cells how).2; have Hrs := hide hrs; clear how hrs; have hsB := hbB.size; have qb0 := (hbB.cell (p := ⟨w.heap.size, 0, none⟩) azb).trans ab0; have qb1 := (hbB.cell (p := ⟨w.heap.size, 1, none⟩) azb).trans ab1; have qb2 := (hbB.cell (p := ⟨w.heap.size, 2, none⟩) azb).trans ab2; have qb3 := (hbB.cell (p := ⟨w.heap.size, 3, none⟩) azb).trans ab3; have qb4 := (hbB.cell (p := ⟨w.heap.size, 4, none⟩) azb).trans ab4; have qb5 := (hbB.cell (p := ⟨w.heap.size, 5, none⟩) azb).trans ab5; have qb6 := (hbB.cell (p := ⟨w.heap.size, 6, none⟩) azb).trans ab6; have qr0 := (hbB.cell (p := ⟨w.heap.size + 1 + 1, 0, none⟩) azr).trans ar0; have qr1 := (hbB.cell (p := ⟨w.heap.size + 1 + 1, 1, none⟩) azr).trans ar1; have qr2 := (hbB.cell (p := ⟨w.heap.size + 1 + 1, 2, none⟩) azr).trans ar2; have qr3 := (hbB.cell (p := ⟨w.heap.size + 1 + 1, 3, none⟩) azr).trans ar3; have qr4 := (hbB.cell (p := ⟨w.heap.size + 1 + 1, 4, none⟩) azr).trans ar4; have qr5 := (hbB.cell (p := ⟨w.heap.size + 1 + 1, 5, none⟩) azr).trans ar5; have qr6 := (hbB.cell (p := ⟨w.heap.size + 1 + 1, 6, none⟩) azr).trans ar6; have qg0 := (hbB.cell (p := ⟨w.heap.size + 1 + 1 + 1, 0, none⟩) azg).trans ag0; have qg1 := (hbB.cell (p := ⟨w.heap.size + 1 + 1 + 1, 1, none⟩) azg).trans ag1; have qg2 := (hbB.cell (p := ⟨w.heap.size + 1 + 1 + 1, 2, none⟩) azg).trans ag2; have qg3 := (hbB.cell (p := ⟨w.heap.size + 1 + 1 + 1, 3, none⟩) azg).trans ag3; have qx0 := (hbB.cell (p := ⟨w1.heap.size, 0, none⟩) azx).trans ax0; have qx1 := (hbB.cell (p := ⟨w1.heap.size, 1, none⟩) azx).trans ax1; have qx2 := (hbB.cell (p := ⟨w1.heap.size, 2, none⟩) azx).trans ax2; have qx3 := (hbB.cell (p := ⟨w1.heap.size, 3, none⟩) azx).trans ax3; have qfb : ∀ o, wB.frozen? ⟨w.heap.size, o, none⟩ = false := (fun o => (hbB.frozen (p := ⟨w.heap.size, o, none⟩) azb).trans (afb o)); have qfr : ∀ o, wB.frozen? ⟨w.heap.size + 1 + 1, o, none⟩ = false := (fun o => (hbB.frozen (p := ⟨w.heap.size + 1 + 1, o, none⟩) azr).trans (afr o)); have qfg : ∀ o, wB.frozen? ⟨w.heap.size + 1 + 1 + 1, o, none⟩ = false := (fun o => (hbB.frozen (p := ⟨w.heap.size + 1 + 1 + 1, o, none⟩) azg).trans (afg o)); clear ab0 ab1 ab2 ab3 ab4 ab5 ab6 ar0 ar1 ar2 ar3 ar4 ar5 ar6 ag0 ag1 ag2 ag3 ax0 ax1 ax2 ax3 afb afr afg))
  have ng0 : ¬ w.heap.size = gs := by omega
  have ng2 : ¬ w.heap.size + 1 + 1 = gs := by omega
  have ng3 : ¬ w.heap.size + 1 + 1 + 1 = gs := by omega
  have ng4 : ¬ w1.heap.size = gs := by omega
  have ks := Hcs.out t (.int .i64 s) (by rw [List.getElem?_map, HS1.out]; rfl)
  obtain ⟨wC, hwC⟩ : ∃ W : World, W = (wB.setCell ⟨w.heap.size, 5, none⟩ (.slice (some ⟨gs, 0, none⟩) m1.steps.length sc')) := ⟨_, rfl⟩
  have hsC : wC.heap.size = wB.heap.size := by rw [hwC]; simp
  have kc : wC.cell? ⟨gs, t, none⟩ = some (.int .i64 s) := by rw [hwC]; go_simp
  have kfs : ∀ o, wC.frozen? ⟨gs, o, none⟩ = false := by intro o; rw [hwC]; go_simp
  have kb0 : wC.cell? ⟨w.heap.size, 0, none⟩ = some (.slice m1.mem.pA m1.mem.hs.length m1.mem.pc) := by rw [hwC]; go_simp
  have kb1 : wC.cell? ⟨w.heap.size, 1, none⟩ = some (.slice m1.mem.vA m1.mem.vs.length m1.mem.vc) := by rw [hwC]; go_simp
  have kb2 : wC.cell? ⟨w.heap.size, 2, none⟩ = some (.slice m1.ln.fA m1.ln.first.length m1.ln.fc) := by rw [hwC]; go_simp
  have kb3 : wC.cell? ⟨w.heap.size, 3, none⟩ = some (.slice m1.ln.lA m1.ln.logs.length m1.ln.lc) := by rw [hwC]; go_simp
  have kb4 : wC.cell? ⟨w.heap.size, 4, none⟩ = some (.map m1.ln.asks) := by rw [hwC]; go_simp
  have kb5 : wC.cell? ⟨w.heap.size, 5, none⟩ = some (.slice (some ⟨gs, 0, none⟩) m1.steps.length sc') := by rw [hwC]; go_simp
  have kb6 : wC.cell? ⟨w.heap.size, 6, none⟩ = some (.int .i64 m1.crashes) := by rw [hwC]; go_simp
  have kr0 : wC.cell? ⟨w.heap.size + 1 + 1, 0, none⟩ = some (.slice none 0 0) := by rw [hwC]; go_simp
  have kr1 : wC.cell? ⟨w.heap.size + 1 + 1, 1, none⟩ = some (.slice none 0 0) := by rw [hwC]; go_simp
  have kr2 : wC.cell? ⟨w.heap.size + 1 + 1, 2, none⟩ = some (.slice none 0 0) := by rw [hwC]; go_simp
  have kr3 : wC.cell? ⟨w.heap.size + 1 + 1, 3, none⟩ = some (.slice none 0 0) := by rw [hwC]; go_simp
  have kr4 : wC.cell? ⟨w.heap.size + 1 + 1, 4, none⟩ = some (.map none) := by rw [hwC]; go_simp
  have kr5 : wC.cell? ⟨w.heap.size + 1 + 1, 5, none⟩ = some (.slice none 0 0) := by rw [hwC]; go_simp
  have kr6 : wC.cell? ⟨w.heap.size + 1 + 1, 6, none⟩ = some (.int .i64 0) := by rw [hwC]; go_simp
  have kg0 : wC.cell? ⟨w.heap.size + 1 + 1 + 1, 0, none⟩ = some (.int .i64 0) := by rw [hwC]; go_simp
  have kg1 : wC.cell? ⟨w.heap.size + 1 + 1 + 1, 1, none⟩ = some (.int .u32 0) := by rw [hwC]; go_simp
  have kg2 : wC.cell? ⟨w.heap.size + 1 + 1 + 1, 2, none⟩ = some (.int .u32 0) := by rw [hwC]; go_simp
  have kg3 : wC.cell? ⟨w.heap.size + 1 + 1 + 1, 3, none⟩ = some (.bool false) := by rw [hwC]; go_simp
  have kx0 : wC.cell? ⟨w1.heap.size, 0, none⟩ = some (.int .i64 x.v) := by rw [hwC]; go_simp
  have kx1 : wC.cell? ⟨w1.heap.size, 1, none⟩ = some (.int .u32 x.r) := by rw [hwC]; go_simp
  have kx2 : wC.cell? ⟨w1.heap.size, 2, none⟩ = some (.int .u32 x.f) := by rw [hwC]; go_simp
  have kx3 : wC.cell? ⟨w1.heap.size, 3, none⟩ = some (.bool ok) := by rw [hwC]; go_simp
  have kfr : ∀ o, wC.frozen? ⟨w.heap.size + 1 + 1, o, none⟩ = false := by intro o; rw [hwC]; go_simp
  have kfg : ∀ o, wC.frozen? ⟨w.heap.size + 1 + 1 + 1, o, none⟩ = false := by intro o; rw [hwC]; go_simp
  have HRC : Hid (MachV.R wC m1) := hide (by rw [hwC]; exact MachV.R.set (HRA.out.below hbB) aoB (.of qb5) _)
  have HrsC := hide (show Rd wC wC.heap.size 1 (some ⟨gs, 0, none⟩) m1.steps.length (m1.steps.map (Value.int .i64)) by rw [hwC]; exact Rd.more (Rd.set_off Hrs.out (OffC.at (fun e => ng0 e.symm)) _) (by simp))
  have hBC : Below w.heap.size w wC := by rw [hwC]; exact (hBA.trans (hbB.mono (by omega))).setCell (p := ⟨w.heap.size, 5, none⟩) (Nat.le_refl _) _
  rw [← hwC]
  clear hwC ks Hcs Hrs hfs qb0 qb1 qb2 qb3 qb4 qb5 qb6 qr0 qr1 qr2 qr3 qr4 qr5 qr6 qg0 qg1 qg2 qg3 qx0 qx1 qx2 qx3 qfb qfr qfg
  have hw1 : IntKind.i64.wrap ((t : Int) + 1 - 1) = (t : Int) := by rw [show (t : Int) + 1 - 1 = (t : Int) by omega]; exact IntWalk.i64_in _ (by omega)
  have hw2 : IntKind.i64.wrap (t : Int) = (t : Int) := IntWalk.i64_in _ (by omega)
  have j0 : (0 : Int) ≤ (t : Int) := by omega
  have j1 : (t : Int) < (m1.steps.length : Int) := by omega
  have HsC := hide hsC
  clear hsC
  go_wp2_with fail
  clear hw1 hw2
  obtain ⟨wD, hwD⟩ : ∃ W : World, W = (wC.setCell ⟨gs, t, none⟩ (.int .i64 (wrap64 (s + 1)))) := ⟨_, rfl⟩
  have hsD : wD.heap.size = wB.heap.size := by rw [hwD]; simp [HsC.out]
  have ng0' : ¬ gs = w.heap.size := by omega
  have ng2' : ¬ gs = w.heap.size + 1 + 1 := by omega
  have ng3' : ¬ gs = w.heap.size + 1 + 1 + 1 := by omega
  have ng4' : ¬ gs = w1.heap.size := by omega
  have ub0 : wD.cell? ⟨w.heap.size, 0, none⟩ = some (.slice m1.mem.pA m1.mem.hs.length m1.mem.pc) := by rw [hwD]; go_simp
  have ub1 : wD.cell? ⟨w.heap.size, 1, none⟩ = some (.slice m1.mem.vA m1.mem.vs.length m1.mem.vc) := by rw [hwD]; go_simp
  have ub2 : wD.cell? ⟨w.heap.size, 2, none⟩ = some (.slice m1.ln.fA m1.ln.first.length m1.ln.fc) := by rw [hwD]; go_simp
  have ub3 : wD.cell? ⟨w.heap.size, 3, none⟩ = some (.slice m1.ln.lA m1.ln.logs.length m1.ln.lc) := by rw [hwD]; go_simp
  have ub4 : wD.cell? ⟨w.heap.size, 4, none⟩ = some (.map m1.ln.asks) := by rw [hwD]; go_simp
  have ub5 : wD.cell? ⟨w.heap.size, 5, none⟩ = some (.slice (some ⟨gs, 0, none⟩) m1.steps.length sc') := by rw [hwD]; go_simp
  have ub6 : wD.cell? ⟨w.heap.size, 6, none⟩ = some (.int .i64 m1.crashes) := by rw [hwD]; go_simp
  have ur0 : wD.cell? ⟨w.heap.size + 1 + 1, 0, none⟩ = some (.slice none 0 0) := by rw [hwD]; go_simp
  have ur1 : wD.cell? ⟨w.heap.size + 1 + 1, 1, none⟩ = some (.slice none 0 0) := by rw [hwD]; go_simp
  have ur2 : wD.cell? ⟨w.heap.size + 1 + 1, 2, none⟩ = some (.slice none 0 0) := by rw [hwD]; go_simp
  have ur3 : wD.cell? ⟨w.heap.size + 1 + 1, 3, none⟩ = some (.slice none 0 0) := by rw [hwD]; go_simp
  have ur4 : wD.cell? ⟨w.heap.size + 1 + 1, 4, none⟩ = some (.map none) := by rw [hwD]; go_simp
  have ur5 : wD.cell? ⟨w.heap.size + 1 + 1, 5, none⟩ = some (.slice none 0 0) := by rw [hwD]; go_simp
  have ur6 : wD.cell? ⟨w.heap.size + 1 + 1, 6, none⟩ = some (.int .i64 0) := by rw [hwD]; go_simp
  have ug0 : wD.cell? ⟨w.heap.size + 1 + 1 + 1, 0, none⟩ = some (.int .i64 0) := by rw [hwD]; go_simp
  have ug1 : wD.cell? ⟨w.heap.size + 1 + 1 + 1, 1, none⟩ = some (.int .u32 0) := by rw [hwD]; go_simp
  have ug2 : wD.cell? ⟨w.heap.size + 1 + 1 + 1, 2, none⟩ = some (.int .u32 0) := by rw [hwD]; go_simp
  have ug3 : wD.cell? ⟨w.heap.size + 1 + 1 + 1, 3, none⟩ = some (.bool false) := by rw [hwD]; go_simp
  have ux0 : wD.cell? ⟨w1.heap.size, 0, none⟩ = some (.int .i64 x.v) := by rw [hwD]; go_simp
  have ux1 : wD.cell? ⟨w1.heap.size, 1, none⟩ = some (.int .u32 x.r) := by rw [hwD]; go_simp
  have ux2 : wD.cell? ⟨w1.heap.size, 2, none⟩ = some (.int .u32 x.f) := by rw [hwD]; go_simp
  have ux3 : wD.cell? ⟨w1.heap.size, 3, none⟩ = some (.bool ok) := by rw [hwD]; go_simp
  have ufr : ∀ o, wD.frozen? ⟨w.heap.size + 1 + 1, o, none⟩ = false := by intro o; rw [hwD]; go_simp
  have ufg : ∀ o, wD.frozen? ⟨w.heap.size + 1 + 1 + 1, o, none⟩ = false := by intro o; rw [hwD]; go_simp
  have hRD : MachV.R wD m1 := by rw [hwD]; exact MachV.R.set HRC.out (MachV.off_new HRA.out (by omega)) (.of kc) _
  have hrD : Rd wD wD.heap.size 1 (some ⟨gs, 0, none⟩) m1.steps.length ((m1.steps.set t (wrap64 (s + 1))).map (Value.int .i64)) := by
    rw [hwD, List.map_set]
    have h := Rd.setAt HrsC.out (i := t) (by rw [List.length_map]; omega) (.int .i64 (wrap64 (s + 1)))
    rw [Nat.zero_add] at h
    exact Rd.more h (by simp)
  have HM2 : Hid (MachV.R wD (m1.stepped gs sc' t (wrap64 (s + 1)))) := hide ⟨hRD.1, hRD.2.1, (by show (m1.steps.set t _).length ≤ sc'; rw [List.length_set]; exact hsc), (fun e => by cases e), (by show Rd wD wD.heap.size 1 (some ⟨gs, 0, none⟩) (m1.steps.set t _).length _; rw [List.length_set]; exact hrD)⟩
  have hBD : Below w.heap.size w wD := by rw [hwD]; exact hBC.setCell (p := ⟨gs, t, none⟩) (by show w.heap.size ≤ gs; omega) _
  have oR2 : MachV.off (w.heap.size + 1 + 1) (m1.stepped gs sc' t (wrap64 (s + 1))) := ⟨aoR.1, aoR.2.1, OffC.at (by omega)⟩
  have oG2 : MachV.off (w.heap.size + 1 + 1 + 1) (m1.stepped gs sc' t (wrap64 (s + 1))) := ⟨aoG.1, aoG.2.1, OffC.at (by omega)⟩
  rw [← hwD]
  clear hwD kc kfs hRD hrD hsD kb0 kb1 kb2 kb3 kb4 kb5 kb6 kr0 kr1 kr2 kr3 kr4 kr5 kr6 kg0 kg1 kg2 kg3 kx0 kx1 kx2 kx3 kfr kfg
  refine wp_region_held_drew (S := (fun w' => (w'.cell? ⟨w.heap.size, 0, none⟩ = some (.slice m1.mem.pA m1.mem.hs.length m1.mem.pc) ∧ w'.cell? ⟨w.heap.size, 1, none⟩ = some (.slice m1.mem.vA m1.mem.vs.length m1.mem.vc) ∧ w'.cell? ⟨w.heap.size, 2, none⟩ = some (.slice m1.ln.fA m1.ln.first.length m1.ln.fc) ∧ w'.cell? ⟨w.heap.size, 3, none⟩ = some (.slice m1.ln.lA m1.ln.logs.length m1.ln.lc) ∧ w'.cell? ⟨w.heap.size, 4, none⟩ = some (.map m1.ln.asks) ∧ w'.cell? ⟨w.heap.size, 5, none⟩ = some (.slice (some ⟨gs, 0, none⟩) m1.steps.length sc') ∧ w'.cell? ⟨w.heap.size, 6, none⟩ = some (.int .i64 m1.crashes)) ∧ (w'.cell? ⟨w1.heap.size, 0, none⟩ = some (.int .i64 x.v) ∧ w'.cell? ⟨w1.heap.size, 1, none⟩ = some (.int .u32 x.r) ∧ w'.cell? ⟨w1.heap.size, 2, none⟩ = some (.int .u32 x.f) ∧ w'.cell? ⟨w1.heap.size, 3, none⟩ = some (.bool ok)))) (by kernel_rfl) (by first | with_reducible exact ⟨⟨ub0, ub1, ub2, ub3, ub4, ub5, ub6⟩, ux0, ux1, ux2, ux3⟩ | exact ⟨⟨by go_simp, by go_simp, by go_simp, by go_simp, by go_simp, by go_simp, by go_simp⟩, by go_simp, by go_simp, by go_simp, by go_simp⟩) (fun hHeld => ?_)
  refine wpAnyH_take (i := 0) (v := ?_) (oi := { dst := some 83, op := Op.load 42 (Operand.tmp 4), type := 42, pos := "machine.go:130", after := #[], guard := none }) (by rfl) (by kernel_rfl) (by kernel_rfl) (by kernel_rfl) (fun _ _ _ h => h) (Or.inl ⟨by rfl, ?_⟩) (by assumption) ?_; rotate_left; focus (intro wTk hSw; (try dsimp only at hSw); go_simp; (try with_reducible rfl); done)
  (try simp only [Act.put, List.setIfInBounds_toArray, List.set_cons_zero, List.set_cons_succ])
  refine wpAnyH_take (i := 1) (v := ?_) (oi := { dst := some 84, op := Op.load 106 (Operand.tmp 12), type := 106, pos := "machine.go:130", after := #[{ on := 2, ground := Ground.gcOnly Departure.lateStores }], guard := none }) (by rfl) (by kernel_rfl) (by kernel_rfl) (by kernel_rfl) (fun _ _ _ h => h) (Or.inl ⟨by rfl, ?_⟩) (by assumption) ?_; rotate_left; focus (intro wTk hSw; (try dsimp only at hSw); go_simp; (try with_reducible rfl); done)
  (try simp only [Act.put, List.setIfInBounds_toArray, List.set_cons_zero, List.set_cons_succ])
  refine wpAnyH_ready (rs := [2]) (by kernel_rfl) (by simp) ?_
  refine AllReadyH.cons (o := { dst := none, op := Op.store 42 (Operand.tmp 8) (Operand.tmp 83), type := 0, pos := "machine.go:130", after := #[{ on := 0, ground := Ground.data }, { on := 0, ground := Ground.phase }, { on := 1, ground := Ground.textOnly Departure.lateStores }], guard := none }) (by rfl) (fun K hK => ?_) (AllReadyH.nil)
  go_simp
  skip
  go_wp2_with fail
  refine hK.out _ _ (by first | with_reducible exact ⟨⟨ub0, ub1, ub2, ub3, ub4, ub5, ub6⟩, ux0, ux1, ux2, ux3⟩ | exact ⟨⟨by go_simp, by go_simp, by go_simp, by go_simp, by go_simp, by go_simp, by go_simp⟩, by go_simp, by go_simp, by go_simp, by go_simp⟩) (fun hHeld => ?_)
  clear hK K
  (try simp only [Act.put, List.setIfInBounds_toArray, List.set_cons_zero, List.set_cons_succ])
  refine wpAnyH_ready (rs := [3]) (by kernel_rfl) (by simp) ?_
  refine AllReadyH.cons (o := { dst := none, op := Op.store 106 (Operand.tmp 9) (Operand.tmp 84), type := 0, pos := "machine.go:130", after := #[{ on := 1, ground := Ground.data }, { on := 2, ground := Ground.chain }, { on := 0, ground := Ground.phase }, { on := 1, ground := Ground.phase }, { on := 2, ground := Ground.phase }], guard := none }) (by rfl) (fun K hK => ?_) (AllReadyH.nil)
  go_simp
  skip
  go_wp2_with fail
  refine hK.out _ _ (by first | with_reducible exact ⟨⟨ub0, ub1, ub2, ub3, ub4, ub5, ub6⟩, ux0, ux1, ux2, ux3⟩ | exact ⟨⟨by go_simp, by go_simp, by go_simp, by go_simp, by go_simp, by go_simp, by go_simp⟩, by go_simp, by go_simp, by go_simp, by go_simp⟩) (fun hHeld => ?_)
  clear hK K
  (try simp only [Act.put, List.setIfInBounds_toArray, List.set_cons_zero, List.set_cons_succ])
  refine wpAnyH_take (i := 4) (v := ?_) (oi := { dst := some 10, op := Op.assign (Operand.const (Value.int IntKind.i64 0)), type := 52, pos := "machine.go:130", after := #[{ on := 3, ground := Ground.chain }, { on := 0, ground := Ground.phase }, { on := 1, ground := Ground.phase }, { on := 2, ground := Ground.phase }, { on := 3, ground := Ground.phase }], guard := none }) (by rfl) (by kernel_rfl) (by kernel_rfl) (by kernel_rfl) (fun _ _ _ h => h) (Or.inl ⟨by rfl, ?_⟩) (by assumption) ?_; rotate_left; focus (intro wTk hSw; (try dsimp only at hSw); go_simp; (try with_reducible rfl); done)
  (try simp only [Act.put, List.setIfInBounds_toArray, List.set_cons_zero, List.set_cons_succ])
  refine wpAnyH_done (by kernel_rfl) ?_ _
  all_goals go_wp2_with fail
  all_goals have HZ := hide (MachV.R.set (MachV.R.set (MachV.R.set (MachV.R.set (MachV.R.set (MachV.R.set (MachV.R.set (MachV.R.set (MachV.R.set (MachV.R.set (MachV.R.set HM2.out oR2 (.of ur0) (.slice m1.mem.pA m1.mem.hs.length m1.mem.pc)) oR2 (.set (.of ur1) _) (.slice m1.mem.vA m1.mem.vs.length m1.mem.vc)) oR2 (.set (.set (.of ur2) _) _) (.slice m1.ln.fA m1.ln.first.length m1.ln.fc)) oR2 (.set (.set (.set (.of ur3) _) _) _) (.slice m1.ln.lA m1.ln.logs.length m1.ln.lc)) oR2 (.set (.set (.set (.set (.of ur4) _) _) _) _) (.map m1.ln.asks)) oR2 (.set (.set (.set (.set (.set (.of ur5) _) _) _) _) _) (.slice (some ⟨gs, 0, none⟩) m1.steps.length sc')) oR2 (.set (.set (.set (.set (.set (.set (.of ur6) _) _) _) _) _) _) (.int .i64 m1.crashes)) oG2 (.set (.set (.set (.set (.set (.set (.set (.of ug0) _) _) _) _) _) _) _) (.int .i64 x.v)) oG2 (.set (.set (.set (.set (.set (.set (.set (.set (.of ug1) _) _) _) _) _) _) _) _) (.int .u32 x.r)) oG2 (.set (.set (.set (.set (.set (.set (.set (.set (.set (.of ug2) _) _) _) _) _) _) _) _) _) (.int .u32 x.f)) oG2 (.set (.set (.set (.set (.set (.set (.set (.set (.set (.set (.of ug3) _) _) _) _) _) _) _) _) _) _) (.bool ok))
  all_goals have HB := hide (Below.setCell (Below.setCell (Below.setCell (Below.setCell (Below.setCell (Below.setCell (Below.setCell (Below.setCell (Below.setCell (Below.setCell (Below.setCell hBD (p := ⟨w.heap.size + 1 + 1, 0, none⟩) (by show w.heap.size ≤ w.heap.size + 1 + 1; omega) (.slice m1.mem.pA m1.mem.hs.length m1.mem.pc)) (p := ⟨w.heap.size + 1 + 1, 1, none⟩) (by show w.heap.size ≤ w.heap.size + 1 + 1; omega) (.slice m1.mem.vA m1.mem.vs.length m1.mem.vc)) (p := ⟨w.heap.size + 1 + 1, 2, none⟩) (by show w.heap.size ≤ w.heap.size + 1 + 1; omega) (.slice m1.ln.fA m1.ln.first.length m1.ln.fc)) (p := ⟨w.heap.size + 1 + 1, 3, none⟩) (by show w.heap.size ≤ w.heap.size + 1 + 1; omega) (.slice m1.ln.lA m1.ln.logs.length m1.ln.lc)) (p := ⟨w.heap.size + 1 + 1, 4, none⟩) (by show w.heap.size ≤ w.heap.size + 1 + 1; omega) (.map m1.ln.asks)) (p := ⟨w.heap.size + 1 + 1, 5, none⟩) (by show w.heap.size ≤ w.heap.size + 1 + 1; omega) (.slice (some ⟨gs, 0, none⟩) m1.steps.length sc')) (p := ⟨w.heap.size + 1 + 1, 6, none⟩) (by show w.heap.size ≤ w.heap.size + 1 + 1; omega) (.int .i64 m1.crashes)) (p := ⟨w.heap.size + 1 + 1 + 1, 0, none⟩) (by show w.heap.size ≤ w.heap.size + 1 + 1 + 1; omega) (.int .i64 x.v)) (p := ⟨w.heap.size + 1 + 1 + 1, 1, none⟩) (by show w.heap.size ≤ w.heap.size + 1 + 1 + 1; omega) (.int .u32 x.r)) (p := ⟨w.heap.size + 1 + 1 + 1, 2, none⟩) (by show w.heap.size ≤ w.heap.size + 1 + 1 + 1; omega) (.int .u32 x.f)) (p := ⟨w.heap.size + 1 + 1 + 1, 3, none⟩) (by show w.heap.size ≤ w.heap.size + 1 + 1 + 1; omega) (.bool ok))
  all_goals have hLs : (m1.steps.set t (wrap64 (s + 1))).length = m1.steps.length := List.length_set
  all_goals refine bodyPost_ret (v := .tuple #[.agg #[.slice m1.mem.pA m1.mem.hs.length m1.mem.pc, .slice m1.mem.vA m1.mem.vs.length m1.mem.vc, .slice m1.ln.fA m1.ln.first.length m1.ln.fc, .slice m1.ln.lA m1.ln.logs.length m1.ln.lc, .map m1.ln.asks, .slice (some ⟨gs, 0, none⟩) m1.steps.length sc', .int .i64 m1.crashes], .agg #[.int .i64 x.v, .int .u32 x.r, .int .u32 x.f, .bool ok], .int .i64 0]) (by simp [results, Tryz.results108, go_sem]; (try go_simp)) rfl ⟨m1, x, ok, gs, sc', (by simp only [MachV.stepped, hLs]), aE.out, ?_, (fun C hC hm => ⟨(aoff.out C hC hm).1, (aoff.out C hC hm).2.1, OffC.at (by omega)⟩), ?_⟩
  all_goals first
    | with_reducible exact HZ.out
    | with_reducible exact HZ.out.drew
    | with_reducible exact HB.out
    | with_reducible exact HB.out.drew
end Go.Proofs.YtfdndkgjmmeafaaGreatDoor

