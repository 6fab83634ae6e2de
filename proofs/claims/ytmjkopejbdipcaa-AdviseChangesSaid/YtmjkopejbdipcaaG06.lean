/- A struct variable's cells as one fact; one cell as a fact. No program is named here. -/
import Derived.Deep.RegionHeld
import Derived.Test.YtmjkopejbdipcaaG00
namespace Go.Proofs.Ytmjkopejbdipcaa
set_option linter.unusedSimpArgs false
set_option linter.unusedVariables false
open Go.RowKit
/-- A variable of the call's own at block B holds these cells. -/
def BoxC (B : Nat) (cs : List Value) (w : World) : Prop := (∀ j u, cs[j]? = some u → w.cell? ⟨B, j, none⟩ = some u) ∧ (∀ o, w.frozen? ⟨B, o, none⟩ = false) ∧ B < w.heap.size
theorem BoxC.below {B : Nat} {cs : List Value} {w w' : World} (h : BoxC B cs w) (hb : Below w.heap.size w w') : BoxC B cs w' := by
  obtain ⟨h1, h2, h3⟩ := h
  exact ⟨fun j u hu => (hb.cell (p := ⟨B, j, none⟩) h3).trans (h1 j u hu), fun o => (hb.frozen (p := ⟨B, o, none⟩) h3).trans (h2 o), Nat.lt_of_lt_of_le h3 hb.size⟩
theorem BoxC.far {B C o : Nat} {cs : List Value} {w : World} (h : BoxC B cs w) (hne : C ≠ B) (x : Value) : BoxC B cs (w.setCell ⟨C, o, none⟩ x) := by
  obtain ⟨h1, h2, h3⟩ := h
  refine ⟨fun j u hu => ?_, fun o => by rw [World.frozen?_setCell]; exact h2 o, by simpa using h3⟩
  rw [World.cell?_setCell_other _ _ _ _ (by intro e; injection e with e _; exact hne e)]
  exact h1 j u hu
theorem BoxC.store {B o : Nat} {cs : List Value} {w : World} (h : BoxC B cs w) (ho : o < cs.length) (x : Value) : BoxC B (cs.set o x) (w.setCell ⟨B, o, none⟩ x) := by
  obtain ⟨h1, h2, h3⟩ := h
  refine ⟨fun j u hu => ?_, fun o => by rw [World.frozen?_setCell]; exact h2 o, by simpa using h3⟩
  rw [List.getElem?_set] at hu
  by_cases e : o = j
  · subst e
    rw [if_pos rfl, if_pos ho] at hu
    injection hu with hu
    subst hu
    exact World.cell?_setCell_same _ _ _ (h1 o _ (List.getElem?_eq_getElem ho))
  · rw [if_neg e] at hu
    rw [World.cell?_setCell_other _ _ _ _ (by intro e2; injection e2 with _ e2; exact e e2)]
    exact h1 j u hu
theorem BoxC.made (w : World) (cs : Array Value) (t : TypeId) : BoxC w.heap.size cs.toList (w.alloc (.cells cs t)) := by
  refine ⟨fun j u hu => ?_, fun o => World.frozen?_alloc_at _ _ _ _ rfl, by simp⟩
  have hh : (w.alloc (.cells cs t)).heap[w.heap.size]? = some (.cells cs t (0, 0)) := heap_alloc_new w _
  have hc : cs[j]? = some u := by rw [← Array.getElem?_toList]; exact hu
  simp only [World.cell?, hh]
  exact hc
theorem BoxC.made_at {w : World} {B : Nat} (hB : B = w.heap.size) (cs : Array Value) (t : TypeId) : BoxC B cs.toList (w.alloc (.cells cs t)) := by rw [hB]; exact BoxC.made w cs t
theorem BoxC.drew {B : Nat} {cs : List Value} {w : World} (h : BoxC B cs w) : BoxC B cs w.drew := h

theorem BoxC.at {B : Nat} {cs : List Value} {w : World} (h : BoxC B cs w) {j : Nat} {u : Value} (hj : cs[j]? = some u) : w.cell? ⟨B, j, none⟩ = some u := h.1 j u hj

/-- One cell of a block that is there. -/
def CellB (b o : Nat) (u : Value) (w : World) : Prop := w.cell? ⟨b, o, none⟩ = some u ∧ b < w.heap.size
theorem CellB.below {b o : Nat} {u : Value} {w w' : World} (h : CellB b o u w) (hb : Below w.heap.size w w') : CellB b o u w' := ⟨(hb.cell (p := ⟨b, o, none⟩) h.2).trans h.1, Nat.lt_of_lt_of_le h.2 hb.size⟩
theorem CellB.of {b o : Nat} {u : Value} {w : World} (h : w.cell? ⟨b, o, none⟩ = some u) : CellB b o u w := ⟨h, cell_lt h⟩
theorem BoxC.of2 {B : Nat} {a b : Value} {w : World} (h0 : w.cell? ⟨B, 0, none⟩ = some a) (h1 : w.cell? ⟨B, 1, none⟩ = some b) (hf : ∀ o, w.frozen? ⟨B, o, none⟩ = false) : BoxC B [a, b] w :=
  ⟨fun j u hu => by
    match j, hu with
    | 0, hu => injection hu with hu; subst hu; exact h0
    | 1, hu => injection hu with hu; subst hu; exact h1, hf, cell_lt h0⟩
/-- What a region holds: boxes of the call's own, one cell of an older block. -/
def HB (l : List (Nat × List Value)) (b o : Nat) (u : Value) (w : World) : Prop := (∀ p ∈ l, BoxC p.1 p.2 w) ∧ CellB b o u w
section
variable {l : List (Nat × List Value)} {b o : Nat} {u : Value} {w w' : World}
theorem HB.below (h : HB l b o u w) (hb : Below w.heap.size w w') : HB l b o u w' := ⟨fun p hp => (h.1 p hp).below hb, h.2.below hb⟩
theorem HB.undrew (h : HB l b o u w.drew) : HB l b o u w := h
theorem HB.push {B : Nat} {cs : List Value} (h : HB l b o u w) (hx : BoxC B cs w) : HB ((B, cs) :: l) b o u w := ⟨fun p hp => by
  rcases List.mem_cons.1 hp with rfl | hp
  · exact hx
  · exact h.1 p hp, h.2⟩
theorem HB.pop {p : Nat × List Value} (h : HB (p :: l) b o u w) : HB l b o u w := ⟨fun q hq => h.1 q (List.mem_cons_of_mem _ hq), h.2⟩
theorem HB.box {B : Nat} {cs : List Value} (h : HB l b o u w) (hm : (B, cs) ∈ l) : BoxC B cs w := h.1 _ hm
end
/-- A box with some contents. -/
def BoxE (B n : Nat) (w : World) : Prop := ∃ cs : List Value, cs.length = n ∧ BoxC B cs w
theorem BoxC.some {B : Nat} {cs : List Value} {w : World} (h : BoxC B cs w) : BoxE B cs.length w := ⟨cs, rfl, h⟩
theorem BoxE.below {B n : Nat} {w w' : World} (h : BoxE B n w) (hb : Below w.heap.size w w') : BoxE B n w' := by
  obtain ⟨cs, h1, h2⟩ := h
  exact ⟨cs, h1, h2.below hb⟩
theorem BoxE.at {B n j : Nat} {w : World} (h : BoxE B n w) (hj : j < n) : ∃ u, w.cell? ⟨B, j, none⟩ = some u := by
  obtain ⟨cs, h1, h2⟩ := h
  exact ⟨_, h2.1 j _ (List.getElem?_eq_getElem (by omega))⟩
theorem BoxE.fz {B n : Nat} {w : World} (h : BoxE B n w) (o : Nat) : w.frozen? ⟨B, o, none⟩ = false := by
  obtain ⟨cs, h1, h2⟩ := h
  exact h2.2.1 o
theorem BoxE.lt {B n : Nat} {w : World} (h : BoxE B n w) : B < w.heap.size := by
  obtain ⟨cs, h1, h2⟩ := h
  exact h2.2.2
theorem BoxE.set {B n C o : Nat} {w : World} (h : BoxE B n w) (ho : C = B → o < n) (x : Value) : BoxE B n (w.setCell ⟨C, o, none⟩ x) := by
  obtain ⟨cs, h1, h2⟩ := h
  by_cases e : C = B
  · subst e
    exact ⟨cs.set o x, by rw [List.length_set]; exact h1, h2.store (by rw [h1]; exact ho rfl) x⟩
  · exact ⟨cs, h1, h2.far e x⟩
theorem CellB.far {b o C j : Nat} {u : Value} {w : World} (h : CellB b o u w) (hne : C ≠ b) (x : Value) : CellB b o u (w.setCell ⟨C, j, none⟩ x) := by
  refine ⟨?_, by simpa using h.2⟩
  rw [World.cell?_setCell_other _ _ _ _ (by intro e; injection e with e _; exact hne e)]
  exact h.1
/-- A box that stays as it is, one cell of an older block, boxes with some contents. -/
def HX (N : Nat) (cs : List Value) (b o : Nat) (u : Value) (l : List (Nat × Nat)) (w : World) : Prop := BoxC N cs w ∧ CellB b o u w ∧ ∀ p ∈ l, BoxE p.1 p.2 w
section
variable {N : Nat} {cs : List Value} {b o : Nat} {u : Value} {l : List (Nat × Nat)} {w w' : World}
theorem HX.below (h : HX N cs b o u l w) (hb : Below w.heap.size w w') : HX N cs b o u l w' := ⟨h.1.below hb, h.2.1.below hb, fun p hp => (h.2.2 p hp).below hb⟩
theorem HX.undrew (h : HX N cs b o u l w.drew) : HX N cs b o u l w := h
theorem HX.drew (h : HX N cs b o u l w) : HX N cs b o u l w.drew := h
theorem HX_drew : HX N cs b o u l w.drew = HX N cs b o u l w := rfl
theorem HX.push {B n : Nat} (h : HX N cs b o u l w) (hx : BoxE B n w) : HX N cs b o u ((B, n) :: l) w := ⟨h.1, h.2.1, fun p hp => by
  rcases List.mem_cons.1 hp with rfl | hp
  · exact hx
  · exact h.2.2 p hp⟩
theorem HX.pop {p : Nat × Nat} (h : HX N cs b o u (p :: l) w) : HX N cs b o u l w := ⟨h.1, h.2.1, fun q hq => h.2.2 q (List.mem_cons_of_mem _ hq)⟩
theorem HX.new_at {B n : Nat} {vs : Array Value} {t : TypeId} (h : HX N cs b o u l w) (hB : B = w.heap.size) (hn : vs.size = n) : HX N cs b o u ((B, n) :: l) (w.alloc (.cells vs t)) := by
  subst hB; subst hn
  exact (h.below (Below.alloc (Below.refl _ _) (Nat.le_refl _) _)).push ⟨vs.toList, by simp, BoxC.made w vs t⟩
theorem HX.set {C j : Nat} (h : HX N cs b o u l w) (h1 : C ≠ N) (h2 : C ≠ b) (h3 : ∀ p ∈ l, C = p.1 → j < p.2) (x : Value) : HX N cs b o u l (w.setCell ⟨C, j, none⟩ x) := ⟨h.1.far h1 x, h.2.1.far h2 x, fun p hp => (h.2.2 p hp).set (h3 p hp) x⟩
theorem HX.box {B n : Nat} (h : HX N cs b o u l w) (hm : (B, n) ∈ l) : BoxE B n w := h.2.2 _ hm
end
end Go.Proofs.Ytmjkopejbdipcaa
namespace Go.Proofs.Ytmjkopejbdipcaa
set_option linter.unusedSimpArgs false
set_option linter.unusedVariables false
open Go
/-- From here on S' is held, which says more. -/
theorem wpAnyH_more {P : Program} {md : Region.Mode} {ops : Array Oper} {Q : Exit → Act → World → Prop} {S S' : World → Prop} (hS : ∀ w, S' w → S w) :
    ∀ {fuel : Nat} {listed : Array Bool} {a : Act} {w : World}, wpAnyH P md ops Q S' fuel listed a w → wpAnyH P md ops Q S fuel listed a w
  | 0, _, _, _, h => h
  | _ + 1, _, _, _, h => ⟨h.1, fun i hi => wpOp_mono (fun _ w' h' => ⟨hS w' h'.1, wpAnyH_more hS h'.2⟩) (h.2 i hi)⟩
/-- Behind an operation that was carried out: S' is held from here on. -/
theorem shut_more {P : Program} {md : Region.Mode} {ops : Array Oper} {Q : Exit → Act → World → Prop} {S S' : World → Prop} {fuel : Nat} {listed : Array Bool} {K : Act → World → Prop} (hK : Shut (∀ a w, S w → (S w → wpAnyH P md ops Q S fuel listed a w) → K a w))
    (hS : ∀ w, S' w → S w) {a : Act} {w : World} (h : S' w) (hh : S' w → wpAnyH P md ops Q S' fuel listed a w) : K a w := hK.out a w (hS w h) (fun _ => wpAnyH_more hS (hh h))
end Go.Proofs.Ytmjkopejbdipcaa
