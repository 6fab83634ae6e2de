/- A machine, as it lies in a world. -/
import Derived.Test.YtfdndkgjmmeafaaGreatDoorProg
import Derived.ChangeKeysEq
import Derived.Laws.StructEq
import Derived.Test.YtfdndkgjmmeafaaGreatDoorG04
import Derived.Test.YtfdndkgjmmeafaaGreatDoorG24
import Derived.Test.YtfdndkgjmmeafaaGreatDoorG26
import Derived.Test.YtfdndkgjmmeafaaGreatDoorG27
namespace Go.Proofs.YtfdndkgjmmeafaaGreatDoor
set_option linter.unusedSimpArgs false
set_option linter.unusedVariables false
open Go.RowKit Go.Maps
structure MachV where
  mem : MemV
  ln : LinesV
  sA : Option Addr
  sc : Nat
  steps : List Int
  crashes : Int
def MachV.R (w : World) (m : MachV) : Prop := m.mem.R w ∧ m.ln.R w ∧ m.steps.length ≤ m.sc ∧ (m.sA = none → m.steps.length = 0) ∧ Rd w w.heap.size 1 m.sA m.steps.length (m.steps.map (Value.int .i64))
def MachV.off (C : Nat) (m : MachV) : Prop := m.mem.off C ∧ m.ln.off C ∧ OffC C m.steps.length m.sA
theorem MachV.R.below {w w' : World} {m : MachV} (h : m.R w) (hb : Below w.heap.size w w') : m.R w' := ⟨h.1.below hb, h.2.1.below hb, h.2.2.1, h.2.2.2.1, (h.2.2.2.2.below hb).more hb.size⟩
theorem MachV.R.drew {w : World} {m : MachV} (h : m.R w) : m.R w.drew := h.below (Below.drew (Below.refl _ _))
theorem MachV.R.alloc {w : World} {m : MachV} (h : m.R w) (o : Array Value) (t : TypeId) : m.R (w.alloc (.cells o t)) := h.below (Below.alloc (Below.refl _ _) (Nat.le_refl _) _)
theorem MachV.off_new {w : World} {m : MachV} {C : Nat} (h : m.R w) (hC : w.heap.size ≤ C) : m.off C := ⟨MemV.off_new h.1 hC, LinesV.off_new h.2.1 hC, OffC.new h.2.2.2.2 hC⟩
theorem MachV.R.set {w : World} {m : MachV} {C o : Nat} (h : m.R w) (hoff : m.off C) (hc : HasC ⟨C, o, none⟩ w) (x : Value) : m.R (w.setCell ⟨C, o, none⟩ x) := by
  refine ⟨h.1.set hoff.1 hc x, h.2.1.set hoff.2.1 x, h.2.2.1, h.2.2.2.1, ?_⟩
  rw [show (w.setCell ⟨C, o, none⟩ x).heap.size = w.heap.size by simp]
  exact Rd.set_off h.2.2.2.2 hoff.2.2 x
/-- What New makes. -/
def MachV.fresh (th : Nat) (ws : List W3) (M : MachV) : Prop := M.mem.hs.map HistV.l = ws.map (fun x => [msg0 x]) ∧ M.mem.vs = List.replicate th ⟨none, fun _ => 0⟩ ∧ M.ln.first = ws ∧ M.ln.logs = List.replicate ((ws.length + 7) / 8) log0 ∧ M.ln.asks = none ∧ M.steps = List.replicate th 0 ∧ M.crashes = 0
theorem mach_size (m : MachV) (w : World) : Calls Tryz.prog 22 #[(.agg #[.slice (m).mem.pA (m).mem.hs.length (m).mem.pc, .slice (m).mem.vA (m).mem.vs.length (m).mem.vc, .slice (m).ln.fA (m).ln.first.length (m).ln.fc, .slice (m).ln.lA (m).ln.logs.length (m).ln.lc, .map (m).ln.asks, .slice (m).sA (m).steps.length (m).sc, .int .i64 (m).crashes])] w fun e w' => e = .returned (.tuple #[.int .i64 m.mem.vs.length, .int .i64 m.mem.hs.length]) ∧ Below w.heap.size w w' := by
  have hsz := fun W => mem_size m.mem W
  have Hsz := hide hsz
  clear hsz
  go_enter Tryz.func22, Tryz.ntmps22
  go_wp2_with (first | (go_at_call 32; refine (Hsz.out _).mono ?_; rintro e w1 ⟨rfl, hb1⟩; obtain ⟨hcc1, hff1⟩ := bcell hb1; have hs1 := hb1.size; (try simp at hs1)))
  exact bodyPost_ret (v := .tuple #[.int .i64 m.mem.vs.length, .int .i64 m.mem.hs.length]) (by simp [results, Tryz.results22, go_sem]; (try go_simp)) rfl ⟨rfl, ab0⟩
/-- An act. -/
structure ActV where
  op : Int
  at_ : Int
  old : W3
  new : W3
def ActV.good (L : Nat) (a : ActV) : Prop := 0 ≤ a.op ∧ a.op ≤ 8 ∧ (a.op = 0 ∨ a.op = 8 ∨ (0 ≤ a.at_ ∧ a.at_ < (L : Int)))
theorem mach_changes (a : ActV) (w : World) : Calls Tryz.prog 10 #[(.agg #[.int .i64 (a).op, .int .i64 (a).at_, .int .i64 (a).old.v, .int .u32 (a).old.r, .int .u32 (a).old.f, .int .i64 (a).new.v, .int .u32 (a).new.r, .int .u32 (a).new.f])] w fun e w' => e = .returned (.bool (decide (a.op = 3) || decide (a.op = 4) || decide (a.op = 6))) ∧ Below w.heap.size w w' := by
  by_cases h3 : a.op = 3
  all_goals by_cases h4 : a.op = 4
  all_goals by_cases h6 : a.op = 6
  all_goals (try (exfalso; omega))
  all_goals go_enter Tryz.func10, Tryz.ntmps10
  all_goals go_wp2_with fail
  all_goals go_ret
  all_goals exact ⟨by simp [h3, h4, h6], ab0⟩
end Go.Proofs.YtfdndkgjmmeafaaGreatDoor

namespace Go.Proofs.YtfdndkgjmmeafaaGreatDoor
set_option linter.unusedSimpArgs false
set_option linter.unusedVariables false
open Go.RowKit Go.Maps
set_option maxHeartbeats 4000000 in
set_option maxRecDepth 100000 in
theorem mach_check (m : MachV) (t : Nat) (a : ActV) (w : World) (ht : t < m.mem.vs.length) (ha : a.good m.mem.hs.length) : Calls Tryz.prog 129 #[(.agg #[.slice (m).mem.pA (m).mem.hs.length (m).mem.pc, .slice (m).mem.vA (m).mem.vs.length (m).mem.vc, .slice (m).ln.fA (m).ln.first.length (m).ln.fc, .slice (m).ln.lA (m).ln.logs.length (m).ln.lc, .map (m).ln.asks, .slice (m).sA (m).steps.length (m).sc, .int .i64 (m).crashes]), .int .i64 ((t : Int) + 1), (.agg #[.int .i64 (a).op, .int .i64 (a).at_, .int .i64 (a).old.v, .int .u32 (a).old.r, .int .u32 (a).old.f, .int .i64 (a).new.v, .int .u32 (a).new.r, .int .u32 (a).new.f])] w fun e w' => e = .returned (.int .i64 0) ∧ Below w.heap.size w w' := by
  have hsz := fun W => mach_size m W
  have Hsz := hide hsz
  obtain ⟨op, z, old, new⟩ := a
  obtain ⟨h0, h8, hz⟩ := ha
  simp only at h0 h8 hz
  have t1 : ¬ ((t : Int) + 1 < 1) := by omega
  have t2 : ¬ ((t : Int) + 1 > (m.mem.vs.length : Int)) := by omega
  have t2' : ¬ ((m.mem.vs.length : Int) < (t : Int) + 1) := by omega
  have o1 : ¬ (op < 0) := by omega
  have o2 : ¬ (op > 8) := by omega
  have o2' : ¬ (8 < op) := by omega
  clear hsz
  by_cases z0 : op = 0
  · subst z0
    clear hz h0 h8 o1 o2 o2'
    go_enter Tryz.func129, Tryz.ntmps129
    go_wp2_with (first | (go_at_call 22; refine (Hsz.out _).mono ?_; rintro e w1 ⟨rfl, hb1⟩; obtain ⟨hcc1, hff1⟩ := bcell hb1; have hs1 := hb1.size; (try simp at hs1); have hz1 : w.heap.size < w1.heap.size := (by omega); have hz2 : w.heap.size + 1 < w1.heap.size := (by omega)))
    go_ret
    exact ⟨rfl, ab0⟩
  · by_cases z8 : op = 8
    · subst z8
      clear hz h0 h8 o1 o2 o2'
      go_enter Tryz.func129, Tryz.ntmps129
      go_wp2_with (first | (go_at_call 22; refine (Hsz.out _).mono ?_; rintro e w1 ⟨rfl, hb1⟩; obtain ⟨hcc1, hff1⟩ := bcell hb1; have hs1 := hb1.size; (try simp at hs1); have hz1 : w.heap.size < w1.heap.size := (by omega); have hz2 : w.heap.size + 1 < w1.heap.size := (by omega)))
      go_ret
      exact ⟨rfl, ab0⟩
    · have hz1 : ¬ (z < 0) := by omega
      have hz2 : ¬ (z ≥ (m.mem.hs.length : Int)) := by omega
      have hz2' : ¬ ((m.mem.hs.length : Int) ≤ z) := by omega
      clear hz h0 h8
      go_enter Tryz.func129, Tryz.ntmps129
      go_wp2_with (first | (go_at_call 22; refine (Hsz.out _).mono ?_; rintro e w1 ⟨rfl, hb1⟩; obtain ⟨hcc1, hff1⟩ := bcell hb1; have hs1 := hb1.size; (try simp at hs1); have hz1 : w.heap.size < w1.heap.size := (by omega); have hz2 : w.heap.size + 1 < w1.heap.size := (by omega)))
      go_ret
      exact ⟨rfl, ab0⟩
end Go.Proofs.YtfdndkgjmmeafaaGreatDoor

namespace Go.Proofs.YtfdndkgjmmeafaaGreatDoor
set_option linter.unusedSimpArgs false
set_option linter.unusedVariables false
open Go.RowKit Go.Maps
theorem info_int2 : (Tryz.prog.info? 3).map (fun i => (i.zero, i.size, i.bytes)) = some (some (.int .i64 0), 1, 8) := by kernel_rfl
set_option maxHeartbeats 4000000 in
set_option maxRecDepth 100000 in
theorem mach_new (th n : Nat) (A : Option Addr) (cap : Nat) (ws : List W3) (w : World) (hw : ws.length = n) (hr : Rd w w.heap.size 3 A n (ws.flatMap w3c)) (ht1 : 1 ≤ th) (ht2 : th ≤ 8) (hn1 : 1 ≤ n) (hn2 : n ≤ 4096) :
    Calls Tryz.prog 14 #[.int .i64 th, .slice A n cap] w fun e w' => ∃ M : MachV, e = .returned (.tuple #[(.agg #[.slice (M).mem.pA (M).mem.hs.length (M).mem.pc, .slice (M).mem.vA (M).mem.vs.length (M).mem.vc, .slice (M).ln.fA (M).ln.first.length (M).ln.fc, .slice (M).ln.lA (M).ln.logs.length (M).ln.lc, .map (M).ln.asks, .slice (M).sA (M).steps.length (M).sc, .int .i64 (M).crashes]), .int .i64 0]) ∧ M.fresh th ws ∧ M.R w' ∧ (∀ C, C < w.heap.size → M.off C) ∧ Below w.heap.size w w' := by
  obtain ⟨i0, hi0, jz0, jz1, jz2⟩ := info_parts info_int2
  have hi := hide hi0
  have iz0 := hide jz0
  have iz1 := hide jz1
  have iz2 := hide jz2
  clear hi0 jz0 jz1 jz2
  have hA : A = none → n = 0 := by
    intro e
    obtain ⟨b, off, e2, _⟩ := hr.2 (by omega)
    rw [e] at e2
    cases e2
  have hm := fun W (h : Rd W W.heap.size 3 A n (ws.flatMap w3c)) => mem_new th n A cap ws W hw h ht1 ht2 hn1 hn2
  have hl := fun W (h : Rd W W.heap.size 3 A n (ws.flatMap w3c)) => line_new A cap n ws W hw h hA hn2
  have Hm := hide hm
  have Hl := hide hl
  have Hr := hide hr
  have Hw := hide hw
  have hx0 := toList_madeCells_one (Value.int .i64 0) th
  have Hx0 := hide hx0
  clear hr hw hm hl hA hx0
  go_enter Tryz.func14, Tryz.ntmps14
  go_wp2_with (first
    | (go_at_call 20; refine (Hm.out _ ((Hr.out.below ab0).more (by first | omega | (simp; done) | (simp; omega)))).mono ?_; rintro e w1 ⟨M1, rfl, hf1, hf2, hR1, hO1, hb1⟩; obtain ⟨hcc1, hff1⟩ := bcell hb1; have hs1 := hb1.size; (try simp at hs1); have hz10 : w.heap.size < w1.heap.size := (by omega); have HR1 := hide hR1; have HO1 := hide hO1; have Hf1 := hide hf1; have Hf2 := hide hf2; clear hR1 hO1 hf1 hf2)
    | (go_at_call 21; refine (Hl.out _ ((Hr.out.below ab0).more (by first | omega | (simp; done) | (simp; omega)))).mono ?_; rintro e w2 ⟨M2, rfl, hg1, hg2, hg3, hR2, hO2, hb2⟩; obtain ⟨hcc2, hff2⟩ := bcell hb2; have hs2 := hb2.size; (try simp at hs2); have hz20 : w.heap.size < w2.heap.size := (by omega); have hz21 : w1.heap.size < w2.heap.size := (by omega); have HR2 := hide hR2; have HO2 := hide hO2; have Hg1 := hide hg1; have Hg2 := hide hg2; have Hg3 := hide hg3; clear hR2 hO2 hg1 hg2 hg3))
  obtain ⟨w3, hw3⟩ : ∃ W : World, W = w2.alloc (.cells #[.slice M2.fA M2.first.length M2.fc, .slice M2.lA M2.logs.length M2.lc, .map M2.asks] 39) := ⟨_, rfl⟩
  have hs3 : w2.heap.size + 1 ≤ w3.heap.size := by rw [hw3]; simp
  have p0 : w3.cell? ⟨w1.heap.size, 0, none⟩ = some (.slice M1.pA M1.hs.length M1.pc) := by rw [hw3]; go_simp
  have p1 : w3.cell? ⟨w1.heap.size, 1, none⟩ = some (.slice M1.vA M1.vs.length M1.vc) := by rw [hw3]; go_simp
  have l0 : w3.cell? ⟨w2.heap.size, 0, none⟩ = some (.slice M2.fA M2.first.length M2.fc) := by rw [hw3]; go_simp
  have l1 : w3.cell? ⟨w2.heap.size, 1, none⟩ = some (.slice M2.lA M2.logs.length M2.lc) := by rw [hw3]; go_simp
  have l2 : w3.cell? ⟨w2.heap.size, 2, none⟩ = some (.map M2.asks) := by rw [hw3]; go_simp
  have r0 : w3.cell? ⟨w.heap.size, 0, none⟩ = some (.slice none 0 0) := by rw [hw3]; go_simp
  have r1 : w3.cell? ⟨w.heap.size, 1, none⟩ = some (.slice none 0 0) := by rw [hw3]; go_simp
  have r2 : w3.cell? ⟨w.heap.size, 2, none⟩ = some (.slice none 0 0) := by rw [hw3]; go_simp
  have r3 : w3.cell? ⟨w.heap.size, 3, none⟩ = some (.slice none 0 0) := by rw [hw3]; go_simp
  have r4 : w3.cell? ⟨w.heap.size, 4, none⟩ = some (.map none) := by rw [hw3]; go_simp
  have r5 : w3.cell? ⟨w.heap.size, 5, none⟩ = some (.slice none 0 0) := by rw [hw3]; go_simp
  have r6 : w3.cell? ⟨w.heap.size, 6, none⟩ = some (.int .i64 0) := by rw [hw3]; go_simp
  have f0 : ∀ o, w3.frozen? ⟨w.heap.size, o, none⟩ = false := by intro o; rw [hw3]; go_simp
  have hB3 : Below w.heap.size w w3 := by rw [hw3]; exact ab0
  have HR13 := hide (HR1.out.below (w' := w3) (by rw [hw3]; exact ab0))
  have HR23 := hide (HR2.out.below (w' := w3) (by rw [hw3]; exact ab0))
  rw [← hw3]
  clear hw3 hcc1 hff1 hb1 hcc2 hff2 hb2 HR1 HR2
  have hz30 : w.heap.size < w3.heap.size := by omega
  have hz31 : w1.heap.size < w3.heap.size := by omega
  have hz32 : w2.heap.size < w3.heap.size := by omega
  have n1 : ¬ w.heap.size = w1.heap.size := by omega
  have n2 : ¬ w.heap.size = w2.heap.size := by omega
  refine wp_region_held_drew (S := (fun w' => (w'.cell? ⟨w1.heap.size, 0, none⟩ = some (.slice M1.pA M1.hs.length M1.pc) ∧ w'.cell? ⟨w1.heap.size, 1, none⟩ = some (.slice M1.vA M1.vs.length M1.vc)) ∧ (w'.cell? ⟨w2.heap.size, 0, none⟩ = some (.slice M2.fA M2.first.length M2.fc) ∧ w'.cell? ⟨w2.heap.size, 1, none⟩ = some (.slice M2.lA M2.logs.length M2.lc) ∧ w'.cell? ⟨w2.heap.size, 2, none⟩ = some (.map M2.asks)))) (by kernel_rfl) (by first | with_reducible exact ⟨⟨p0, p1⟩, l0, l1, l2⟩ | exact ⟨⟨by go_simp, by go_simp⟩, by go_simp, by go_simp, by go_simp⟩) (fun hHeld => ?_)
  refine wpAnyH_take (i := 0) (v := ?_) (oi := { dst := some 28, op := Op.load 34 (Operand.tmp 6), type := 34, pos := "machine.go:30", after := #[], guard := none }) (by rfl) (by kernel_rfl) (by kernel_rfl) (by kernel_rfl) (fun _ _ _ h => h) (Or.inl ⟨by rfl, ?_⟩) (by assumption) ?_; rotate_left; focus (intro wTk hSw; (try dsimp only at hSw); go_simp; (try with_reducible rfl); done)
  (try simp only [Act.put, List.setIfInBounds_toArray, List.set_cons_zero, List.set_cons_succ])
  refine wpAnyH_take (i := 1) (v := ?_) (oi := { dst := some 29, op := Op.load 39 (Operand.tmp 8), type := 39, pos := "machine.go:30", after := #[], guard := none }) (by rfl) (by kernel_rfl) (by kernel_rfl) (by kernel_rfl) (fun _ _ _ h => h) (Or.inl ⟨by rfl, ?_⟩) (by assumption) ?_; rotate_left; focus (intro wTk hSw; (try dsimp only at hSw); go_simp; (try with_reducible rfl); done)
  (try simp only [Act.put, List.setIfInBounds_toArray, List.set_cons_zero, List.set_cons_succ])
  refine wpAnyH_take (i := 2) (v := ?_) (oi := { dst := some 30, op := Op.move (Operand.tmp 0), type := 3, pos := "machine.go:30", after := #[], guard := none }) (by rfl) (by kernel_rfl) (by kernel_rfl) (by kernel_rfl) (fun _ _ _ h => h) (Or.inl ⟨by rfl, ?_⟩) (by assumption) ?_; rotate_left; focus (intro wTk hSw; (try dsimp only at hSw); go_simp; (try with_reducible rfl); done)
  (try simp only [Act.put, List.setIfInBounds_toArray, List.set_cons_zero, List.set_cons_succ])
  refine wpAnyH_ready (rs := [3]) (by kernel_rfl) (by simp) ?_
  refine AllReadyH.cons (o := { dst := some 31, op := Op.makeSlice 40 (Operand.tmp 30) (Operand.tmp 30), type := 40, pos := "machine.go:30", after := #[{ on := 2, ground := Ground.data }, { on := 2, ground := Ground.data }], guard := none }) (by rfl) (fun K hK => ?_) (AllReadyH.nil)
  refine wp_make_rows (.tmp 30) (.tmp 30) 40 rfl 3 i0 _ 1 8 Tryz.underlying40 hi.out iz0.out iz1.out iz2.out .i64 .i64 th (by simp [Act.eval, Act.put]) (by simp [Act.eval, Act.put]) (by omega) (by unfold maxLen; omega) (List.replicate th (.int .i64 0)) (by rw [Nat.mul_one]; exact Hx0.out) ?_; intro w4 how4 hb4' hz4; have hb4 : Below _ _ w4 := ab8; have hsw4 := (hb4).size; (try simp at hsw4); obtain ⟨hcc4, hff4⟩ := bcell hb4; have hz40 : w.heap.size < w4.heap.size := (by omega)
  (try go_simp)
  skip
  go_wp2_with fail
  refine hK.out _ _ (by first | with_reducible exact ⟨⟨p0, p1⟩, l0, l1, l2⟩ | exact ⟨⟨by go_simp, by go_simp⟩, by go_simp, by go_simp, by go_simp⟩) (fun hHeld => ?_)
  clear hK K
  (try simp only [Act.put, List.setIfInBounds_toArray, List.set_cons_zero, List.set_cons_succ])
  refine wpAnyH_take (i := 4) (v := ?_) (oi := { dst := some 32, op := Op.build 42 #[(0, Operand.tmp 28), (1, Operand.tmp 29), (2, Operand.tmp 31)], type := 42, pos := "machine.go:30", after := #[{ on := 0, ground := Ground.data }, { on := 1, ground := Ground.data }, { on := 3, ground := Ground.data }], guard := none }) (by rfl) (by kernel_rfl) (by kernel_rfl) (by kernel_rfl) (fun _ _ _ h => h) (Or.inl ⟨by rfl, ?_⟩) (by assumption) ?_; rotate_left; focus (intro wTk hSw; (try dsimp only at hSw); go_simp; (try with_reducible rfl); done)
  (try simp only [Act.put, List.setIfInBounds_toArray, List.set_cons_zero, List.set_cons_succ])
  refine wpAnyH_ready (rs := [5]) (by kernel_rfl) (by simp) ?_
  refine AllReadyH.cons (o := { dst := none, op := Op.store 42 (Operand.tmp 4) (Operand.tmp 32), type := 0, pos := "machine.go:30", after := #[{ on := 4, ground := Ground.data }, { on := 0, ground := Ground.phase }, { on := 1, ground := Ground.phase }, { on := 2, ground := Ground.phase }, { on := 3, ground := Ground.phase }, { on := 4, ground := Ground.phase }], guard := none }) (by rfl) (fun K hK => ?_) (AllReadyH.nil)
  go_simp
  skip
  go_wp2_with fail
  refine hK.out _ _ (by first | with_reducible exact ⟨⟨p0, p1⟩, l0, l1, l2⟩ | exact ⟨⟨by go_simp, by go_simp⟩, by go_simp, by go_simp, by go_simp⟩) (fun hHeld => ?_)
  clear hK K
  (try simp only [Act.put, List.setIfInBounds_toArray, List.set_cons_zero, List.set_cons_succ])
  refine wpAnyH_take (i := 6) (v := ?_) (oi := { dst := some 5, op := Op.assign (Operand.const (Value.int IntKind.i64 0)), type := 52, pos := "machine.go:30", after := #[{ on := 5, ground := Ground.chain }, { on := 0, ground := Ground.phase }, { on := 1, ground := Ground.phase }, { on := 2, ground := Ground.phase }, { on := 3, ground := Ground.phase }, { on := 4, ground := Ground.phase }, { on := 5, ground := Ground.phase }], guard := none }) (by rfl) (by kernel_rfl) (by kernel_rfl) (by kernel_rfl) (fun _ _ _ h => h) (Or.inl ⟨by rfl, ?_⟩) (by assumption) ?_; rotate_left; focus (intro wTk hSw; (try dsimp only at hSw); go_simp; (try with_reducible rfl); done)
  (try simp only [Act.put, List.setIfInBounds_toArray, List.set_cons_zero, List.set_cons_succ])
  refine wpAnyH_done (by kernel_rfl) ?_ _
  all_goals go_wp2_with fail
  all_goals have how := how4.out
  all_goals (try simp at how)
  all_goals obtain ⟨c4, a4, rd4⟩ := own_cap' how
  all_goals have hM4 : MachV.R w4 (⟨M1, M2, some ⟨w3.heap.size, 0, none⟩, th, List.replicate th 0, 0⟩ : MachV) := ⟨HR13.out.below hb4, HR23.out.below hb4, by simp, by simp, by simpa using rd4⟩
  all_goals have hoff : ∀ C, C < w.heap.size + 1 → MachV.off C (⟨M1, M2, some ⟨w3.heap.size, 0, none⟩, th, List.replicate th 0, 0⟩ : MachV) := fun C hC => ⟨HO1.out C (by simp; omega), HO2.out C (by simp; omega), OffC.at (by omega)⟩
  all_goals have Hoff := hide hoff
  all_goals have o0 := hoff w.heap.size (by omega)
  all_goals have HZ := hide (MachV.R.set (MachV.R.set (MachV.R.set (MachV.R.set (MachV.R.set (MachV.R.set (MachV.R.set hM4 o0 (.of ((hcc4 _ 0 hz30).trans r0)) (.slice M1.pA M1.hs.length M1.pc)) o0 (.set (.of ((hcc4 _ 1 hz30).trans r1)) _) (.slice M1.vA M1.vs.length M1.vc)) o0 (.set (.set (.of ((hcc4 _ 2 hz30).trans r2)) _) _) (.slice M2.fA M2.first.length M2.fc)) o0 (.set (.set (.set (.of ((hcc4 _ 3 hz30).trans r3)) _) _) _) (.slice M2.lA M2.logs.length M2.lc)) o0 (.set (.set (.set (.set (.of ((hcc4 _ 4 hz30).trans r4)) _) _) _) _) (.map M2.asks)) o0 (.set (.set (.set (.set (.set (.of ((hcc4 _ 5 hz30).trans r5)) _) _) _) _) _) (.slice (some ⟨w3.heap.size, 0, none⟩) th th)) o0 (.set (.set (.set (.set (.set (.set (.of ((hcc4 _ 6 hz30).trans r6)) _) _) _) _) _) _) (.int .i64 0))
  all_goals have hB4 : Below w.heap.size w w4 := hB3.trans (hb4.mono (by omega))
  all_goals have HB := hide (Below.setCell (Below.setCell (Below.setCell (Below.setCell (Below.setCell (Below.setCell (Below.setCell hB4 (p := ⟨w.heap.size, 0, none⟩) (Nat.le_refl _) (.slice M1.pA M1.hs.length M1.pc)) (p := ⟨w.heap.size, 1, none⟩) (Nat.le_refl _) (.slice M1.vA M1.vs.length M1.vc)) (p := ⟨w.heap.size, 2, none⟩) (Nat.le_refl _) (.slice M2.fA M2.first.length M2.fc)) (p := ⟨w.heap.size, 3, none⟩) (Nat.le_refl _) (.slice M2.lA M2.logs.length M2.lc)) (p := ⟨w.heap.size, 4, none⟩) (Nat.le_refl _) (.map M2.asks)) (p := ⟨w.heap.size, 5, none⟩) (Nat.le_refl _) (.slice (some ⟨w3.heap.size, 0, none⟩) th th)) (p := ⟨w.heap.size, 6, none⟩) (Nat.le_refl _) (.int .i64 0))
  all_goals have hfr : MachV.fresh th ws (⟨M1, M2, some ⟨w3.heap.size, 0, none⟩, th, List.replicate th 0, 0⟩ : MachV) := ⟨Hf1.out, Hf2.out, Hg1.out, by rw [Hw.out]; exact Hg2.out, Hg3.out, rfl, rfl⟩
  all_goals clear hM4 hoff o0 rd4 how
  all_goals refine bodyPost_ret (v := .tuple #[.agg #[.slice M1.pA M1.hs.length M1.pc, .slice M1.vA M1.vs.length M1.vc, .slice M2.fA M2.first.length M2.fc, .slice M2.lA M2.logs.length M2.lc, .map M2.asks, .slice (some ⟨w3.heap.size, 0, none⟩) th th, .int .i64 0], .int .i64 0]) (by simp [results, Tryz.results14, go_sem]; (try go_simp)) rfl ⟨(⟨M1, M2, some ⟨w3.heap.size, 0, none⟩, th, List.replicate th 0, 0⟩ : MachV), (by simp only [List.length_replicate]), hfr, ?_, (fun C hC => Hoff.out C (by omega)), ?_⟩
  all_goals first
    | with_reducible exact HZ.out
    | with_reducible exact HZ.out.drew
    | with_reducible exact HB.out
    | with_reducible exact HB.out.drew
end Go.Proofs.YtfdndkgjmmeafaaGreatDoor

namespace Go.Proofs.YtfdndkgjmmeafaaGreatDoor
set_option linter.unusedSimpArgs false
set_option linter.unusedVariables false
open Go.RowKit Go.Maps
/-- The machine with another memory. -/
def MachV.withMem (m : MachV) (M : MemV) : MachV := ⟨M, m.ln, m.sA, m.sc, m.steps, m.crashes⟩
theorem MachV.withMem_R {m : MachV} {M : MemV} {w w' : World} (h : m.R w) (hb : Below w.heap.size w w') (hM : M.R w') : (m.withMem M).R w' := ⟨hM, (h.below hb).2⟩
theorem MachV.withMem_off {m : MachV} {M : MemV} {C : Nat} (h : m.off C) (hM : M.off C) : (m.withMem M).off C := ⟨hM, h.2⟩
end Go.Proofs.YtfdndkgjmmeafaaGreatDoor

namespace Go.Proofs.YtfdndkgjmmeafaaGreatDoor
set_option linter.unusedSimpArgs false
set_option linter.unusedVariables false
open Go.RowKit Go.Maps
/-- The lines behind a store. -/
def LinesV.stored (m : LinesV) (k : Nat) (lg : LogV) (x : W3) (g1 lc' g2 cap' : Nat) : LinesV := ⟨m.fA, m.fc, m.first, some ⟨g1, 0, none⟩, lc', m.logs.set (k / 8) ⟨some ⟨g2, 0, none⟩, cap', lg.l ++ [((k : Int), x)], lg.kept⟩, m.asks⟩
theorem LinesV.off_stored {m : LinesV} {k : Nat} {lg : LogV} {x : W3} {g1 lc' g2 cap' C : Nat} (h : m.off C) (h1 : g1 ≠ C) (h2 : g2 ≠ C) : (m.stored k lg x g1 lc' g2 cap').off C := by
  refine ⟨h.1, OffC.at h1, fun y hy => ?_⟩
  rcases List.mem_or_eq_of_mem_set hy with hy | rfl
  · exact h.2.2 y hy
  · exact OffC.at h2
end Go.Proofs.YtfdndkgjmmeafaaGreatDoor

