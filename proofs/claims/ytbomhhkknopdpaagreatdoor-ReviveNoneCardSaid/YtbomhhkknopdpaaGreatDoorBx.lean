/- A struct variable's cells as one fact; a row of memory words as one fact. -/
import Derived.Test.YtbomhhkknopdpaaGreatDoorZ1
import Derived.Test.YtbomhhkknopdpaaGreatDoorAp
namespace Go.Proofs.YtbomhhkknopdpaaGreatDoor
set_option linter.unusedSimpArgs false
set_option linter.unusedVariables false
open Go.RowKit

/-- A variable of the call's own at block B holds these cells. -/
def BoxC (B : Nat) (cs : List Value) (w : World) : Prop := (∀ j u, cs[j]? = some u → w.cell? ⟨B, j, none⟩ = some u) ∧ (∀ o, w.frozen? ⟨B, o, none⟩ = false) ∧ B < w.heap.size
theorem BoxC.below {B : Nat} {cs : List Value} {w w' : World} (h : BoxC B cs w) (hb : Below w.heap.size w w') : BoxC B cs w' := by
  obtain ⟨h1, h2, h3⟩ := h
  exact ⟨fun j u hu => (hb.cell (p := ⟨B, j, none⟩) h3).trans (h1 j u hu), fun o => (hb.frozen (p := ⟨B, o, none⟩) h3).trans (h2 o), Nat.lt_of_lt_of_le h3 hb.size⟩
theorem BoxC.far {B C o : Nat} {cs : List Value} {w : World} (h : BoxC B cs w) (hne : C ≠ B) (x : Value) : BoxC B cs (w.setCell ⟨C, o, none⟩ x) := by
  obtain ⟨h1, h2, h3⟩ := h
  refine ⟨fun j u hu => ?_, fun o => by rw [World.frozen?_setCell]; exact h2 o, by simpa using h3⟩
  rw [World.cell?_setCell_other _ _ _ _ (by intro e; injection e with e _; exact hne e)]
  exact h1 j u hu
theorem BoxC.store {B o : Nat} {cs : List Value} {w : World} (h : BoxC B cs w) (ho : o < cs.length) (x : Value) : BoxC B (cs.set o x) (w.setCell ⟨B, o, none⟩ x) := by
  obtain ⟨h1, h2, h3⟩ := h
  refine ⟨fun j u hu => ?_, fun o => by rw [World.frozen?_setCell]; exact h2 o, by simpa using h3⟩
  rw [List.getElem?_set] at hu
  by_cases e : o = j
  · subst e
    rw [if_pos rfl, if_pos ho] at hu
    injection hu with hu
    subst hu
    exact World.cell?_setCell_same _ _ _ (h1 o _ (List.getElem?_eq_getElem ho))
  · rw [if_neg e] at hu
    rw [World.cell?_setCell_other _ _ _ _ (by intro e2; injection e2 with _ e2; exact e e2)]
    exact h1 j u hu
theorem BoxC.made (w : World) (cs : Array Value) (t : TypeId) : BoxC w.heap.size cs.toList (w.alloc (.cells cs t)) := by
  refine ⟨fun j u hu => ?_, fun o => World.frozen?_alloc_at _ _ _ _ rfl, by simp⟩
  have hh : (w.alloc (.cells cs t)).heap[w.heap.size]? = some (.cells cs t (0, 0)) := heap_alloc_new w _
  have hc : cs[j]? = some u := by rw [← Array.getElem?_toList]; exact hu
  simp only [World.cell?, hh]
  exact hc
theorem BoxC.made_at {w : World} {B : Nat} (hB : B = w.heap.size) (cs : Array Value) (t : TypeId) : BoxC B cs.toList (w.alloc (.cells cs t)) := by rw [hB]; exact BoxC.made w cs t
theorem BoxC.drew {B : Nat} {cs : List Value} {w : World} (h : BoxC B cs w) : BoxC B cs w.drew := h

theorem BoxC.at {B : Nat} {cs : List Value} {w : World} (h : BoxC B cs w) {j : Nat} {u : Value} (hj : cs[j]? = some u) : w.cell? ⟨B, j, none⟩ = some u := h.1 j u hj

/-- Memory words in a block of the call's own, from its first cell on. -/
def Mem (b : Nat) (ws : List W3) (w : World) : Prop := (∀ (i : Nat) (x : W3), ws[i]? = some x → w.cell? ⟨b, i * 3, none⟩ = some (.int .i64 x.v) ∧ w.cell? ⟨b, i * 3 + 1, none⟩ = some (.int .u32 x.r) ∧ w.cell? ⟨b, i * 3 + 2, none⟩ = some (.int .u32 x.f)) ∧ (∀ o, w.frozen? ⟨b, o, none⟩ = false) ∧ b < w.heap.size
theorem Mem.below {b B : Nat} {ws : List W3} {w w' : World} (h : Mem b ws w) (hb : Below B w w') (hB : b < B) : Mem b ws w' := by
  obtain ⟨h1, h2, h3⟩ := h
  refine ⟨fun i x hx => ?_, fun o => (hb.frozen (p := ⟨b, o, none⟩) hB).trans (h2 o), Nat.lt_of_lt_of_le h3 hb.size⟩
  obtain ⟨a, c, d⟩ := h1 i x hx
  exact ⟨(hb.cell (p := ⟨b, i * 3, none⟩) hB).trans a, (hb.cell (p := ⟨b, i * 3 + 1, none⟩) hB).trans c, (hb.cell (p := ⟨b, i * 3 + 2, none⟩) hB).trans d⟩
theorem Mem.grow {b : Nat} {ws : List W3} {w w' : World} (h : Mem b ws w) (hb : Below w.heap.size w w') : Mem b ws w' := h.below hb h.2.2
theorem Mem.drew {b : Nat} {ws : List W3} {w : World} (h : Mem b ws w) : Mem b ws w.drew := h
theorem Mem.far {b c o : Nat} {ws : List W3} {w : World} (h : Mem b ws w) (hne : c ≠ b) (v : Value) : Mem b ws (w.setCell ⟨c, o, none⟩ v) := by
  obtain ⟨h1, h2, h3⟩ := h
  refine ⟨fun i x hx => ?_, fun o => by rw [World.frozen?_setCell]; exact h2 o, by simpa using h3⟩
  obtain ⟨a, c', d⟩ := h1 i x hx
  have hx : ∀ q, (w.setCell ⟨c, o, none⟩ v).cell? ⟨b, q, none⟩ = w.cell? ⟨b, q, none⟩ := fun q => World.cell?_setCell_other _ _ _ _ (by intro e; injection e with e _; exact hne e)
  exact ⟨by rw [hx]; exact a, by rw [hx]; exact c', by rw [hx]; exact d⟩
/-- One part of a word is stored. -/
theorem Mem.setV {b k : Nat} {ws : List W3} {w : World} (h : Mem b ws w) {x : W3} (hx : ws[k]? = some x) (v : Int) : Mem b (ws.set k ⟨v, x.r, x.f⟩) (w.setCell ⟨b, k * 3, none⟩ (.int .i64 v)) := by
  obtain ⟨h1, h2, h3⟩ := h
  have hkl : k < ws.length := (List.getElem?_eq_some_iff.1 hx).1
  refine ⟨fun i y hy => ?_, fun o => by rw [World.frozen?_setCell]; exact h2 o, by simpa using h3⟩
  have far : ∀ q, q ≠ k * 3 → (w.setCell ⟨b, k * 3, none⟩ (.int .i64 v)).cell? ⟨b, q, none⟩ = w.cell? ⟨b, q, none⟩ := fun q hq => World.cell?_setCell_other _ _ _ _ (by intro e; injection e with _ e; exact hq e.symm)
  rw [List.getElem?_set] at hy
  by_cases hki : k = i
  · subst hki
    rw [if_pos rfl, if_pos hkl] at hy
    injection hy with hy
    subst hy
    obtain ⟨a, c, d⟩ := h1 k x hx
    exact ⟨World.cell?_setCell_same _ _ _ a, by rw [far _ (by omega)]; exact c, by rw [far _ (by omega)]; exact d⟩
  · rw [if_neg hki] at hy
    obtain ⟨a, c, d⟩ := h1 i y hy
    exact ⟨by rw [far _ (by omega)]; exact a, by rw [far _ (by omega)]; exact c, by rw [far _ (by omega)]; exact d⟩
/-- A whole word is stored. -/
theorem Mem.set3 {b k : Nat} {ws : List W3} {w : World} (h : Mem b ws w) (hk : k < ws.length) (y : W3) : Mem b (ws.set k y) (((w.setCell ⟨b, k * 3, none⟩ (.int .i64 y.v)).setCell ⟨b, k * 3 + 1, none⟩ (.int .u32 y.r)).setCell ⟨b, k * 3 + 2, none⟩ (.int .u32 y.f)) := by
  obtain ⟨h1, h2, h3⟩ := h
  refine ⟨fun i z hz => ?_, fun o => by rw [World.frozen?_setCell, World.frozen?_setCell, World.frozen?_setCell]; exact h2 o, by simpa using h3⟩
  have ne : ∀ p q : Nat, p ≠ q → (⟨b, p, none⟩ : Addr) ≠ ⟨b, q, none⟩ := fun p q hpq e => by injection e with _ e; exact hpq e
  rw [List.getElem?_set] at hz
  by_cases hki : k = i
  · subst hki
    rw [if_pos rfl, if_pos hk] at hz
    injection hz with hz
    subst hz
    obtain ⟨a, c, d⟩ := h1 k _ (List.getElem?_eq_getElem hk)
    have c' : (w.setCell ⟨b, k * 3, none⟩ (.int .i64 y.v)).cell? ⟨b, k * 3 + 1, none⟩ = some (.int .u32 (ws[k]).r) := by rw [World.cell?_setCell_other _ _ _ _ (ne _ _ (by omega))]; exact c
    have d' : ((w.setCell ⟨b, k * 3, none⟩ (.int .i64 y.v)).setCell ⟨b, k * 3 + 1, none⟩ (.int .u32 y.r)).cell? ⟨b, k * 3 + 2, none⟩ = some (.int .u32 (ws[k]).f) := by
      rw [World.cell?_setCell_other _ _ _ _ (ne _ _ (by omega)), World.cell?_setCell_other _ _ _ _ (ne _ _ (by omega))]; exact d
    refine ⟨?_, ?_, World.cell?_setCell_same _ _ _ d'⟩
    · rw [World.cell?_setCell_other _ _ _ _ (ne _ _ (by omega)), World.cell?_setCell_other _ _ _ _ (ne _ _ (by omega))]
      exact World.cell?_setCell_same _ _ _ a
    · rw [World.cell?_setCell_other _ _ _ _ (ne _ _ (by omega))]
      exact World.cell?_setCell_same _ _ _ c'
  · rw [if_neg hki] at hz
    obtain ⟨a, c, d⟩ := h1 i z hz
    refine ⟨?_, ?_, ?_⟩
    all_goals rw [World.cell?_setCell_other _ _ _ _ (ne _ _ (by omega)), World.cell?_setCell_other _ _ _ _ (ne _ _ (by omega)), World.cell?_setCell_other _ _ _ _ (ne _ _ (by omega))]
    · exact a
    · exact c
    · exact d
theorem Mem.w0 {b k : Nat} {ws : List W3} {w : World} (h : Mem b ws w) {x : W3} (hx : ws[k]? = some x) : w.cell? ⟨b, k * 3, none⟩ = some (.int .i64 x.v) := (h.1 k x hx).1
theorem Mem.w1 {b k : Nat} {ws : List W3} {w : World} (h : Mem b ws w) {x : W3} (hx : ws[k]? = some x) : w.cell? ⟨b, k * 3 + 1, none⟩ = some (.int .u32 x.r) := (h.1 k x hx).2.1
theorem Mem.w2 {b k : Nat} {ws : List W3} {w : World} (h : Mem b ws w) {x : W3} (hx : ws[k]? = some x) : w.cell? ⟨b, k * 3 + 2, none⟩ = some (.int .u32 x.f) := (h.1 k x hx).2.2
theorem get_getD {ws : List W3} {k : Nat} (hk : k < ws.length) : ws[k]? = some (ws.getD k z3) := by rw [List.getD_eq_getElem?_getD, List.getElem?_eq_getElem hk]; rfl
end Go.Proofs.YtbomhhkknopdpaaGreatDoor
