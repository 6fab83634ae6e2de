/- A struct variable's cells as one fact; a task's cells. -/
import Derived.Test.YtfldjbojonbmpaaW7
namespace Go.Proofs.Ytfldjbojonbmpaa
open Go.RowKit

/-- A variable of the call's own at block B holds these cells. -/
def BoxC (B : Nat) (cs : List Value) (w : World) : Prop := (∀ j u, cs[j]? = some u → w.cell? ⟨B, j, none⟩ = some u) ∧ (∀ o, w.frozen? ⟨B, o, none⟩ = false) ∧ B < w.heap.size
theorem BoxC.below {B : Nat} {cs : List Value} {w w' : World} (h : BoxC B cs w) (hb : Below w.heap.size w w') : BoxC B cs w' := by
  obtain ⟨h1, h2, h3⟩ := h
  exact ⟨fun j u hu => (hb.cell (p := ⟨B, j, none⟩) h3).trans (h1 j u hu), fun o => (hb.frozen (p := ⟨B, o, none⟩) h3).trans (h2 o), Nat.lt_of_lt_of_le h3 hb.size⟩
theorem BoxC.far {B C o : Nat} {cs : List Value} {w : World} (h : BoxC B cs w) (hne : C ≠ B) (x : Value) : BoxC B cs (w.setCell ⟨C, o, none⟩ x) := by
  obtain ⟨h1, h2, h3⟩ := h
  refine ⟨fun j u hu => ?_, fun o => by rw [World.frozen?_setCell]; exact h2 o, by simpa using h3⟩
  rw [World.cell?_setCell_other _ _ _ _ (by intro e; injection e with e _; exact hne e)]
  exact h1 j u hu
theorem BoxC.store {B o : Nat} {cs : List Value} {w : World} (h : BoxC B cs w) (ho : o < cs.length) (x : Value) : BoxC B (cs.set o x) (w.setCell ⟨B, o, none⟩ x) := by
  obtain ⟨h1, h2, h3⟩ := h
  refine ⟨fun j u hu => ?_, fun o => by rw [World.frozen?_setCell]; exact h2 o, by simpa using h3⟩
  rw [List.getElem?_set] at hu
  by_cases e : o = j
  · subst e
    rw [if_pos rfl, if_pos ho] at hu
    injection hu with hu
    subst hu
    exact World.cell?_setCell_same _ _ _ (h1 o _ (List.getElem?_eq_getElem ho))
  · rw [if_neg e] at hu
    rw [World.cell?_setCell_other _ _ _ _ (by intro e2; injection e2 with _ e2; exact e e2)]
    exact h1 j u hu
theorem BoxC.made (w : World) (cs : Array Value) (t : TypeId) : BoxC w.heap.size cs.toList (w.alloc (.cells cs t)) := by
  refine ⟨fun j u hu => ?_, fun o => World.frozen?_alloc_at _ _ _ _ rfl, by simp⟩
  have hh : (w.alloc (.cells cs t)).heap[w.heap.size]? = some (.cells cs t (0, 0)) := heap_alloc_new w _
  have hc : cs[j]? = some u := by rw [← Array.getElem?_toList]; exact hu
  simp only [World.cell?, hh]
  exact hc
theorem BoxC.made_at {w : World} {B : Nat} (hB : B = w.heap.size) (cs : Array Value) (t : TypeId) : BoxC B cs.toList (w.alloc (.cells cs t)) := by rw [hB]; exact BoxC.made w cs t
theorem BoxC.drew {B : Nat} {cs : List Value} {w : World} (h : BoxC B cs w) : BoxC B cs w.drew := h

/-- A task's cells. -/
def tcells (T : TypeId) (p nv : Value) (a : AS) (A : Option Addr) (m cp : Nat) : List Value :=
  [.iface T p, nv, .int .i64 a.o, .int .i64 a.l, .int .i64 a.v, .int .u32 a.r, .int .u32 a.f, .int .i64 a.v2, .int .u32 a.r2, .int .u32 a.f2, .slice A m cp]
theorem BoxC.store11 {B : Nat} {T : TypeId} {p nv : Value} {a : AS} {A : Option Addr} {m cp : Nat} {w : World} (h : BoxC B (tcells T p nv a A m cp) w) (v0 v1 v2 v3 v4 v5 v6 v7 v8 v9 v10 : Value) :
    BoxC B [v0, v1, v2, v3, v4, v5, v6, v7, v8, v9, v10] (((((((((((w.setCell ⟨B, 0, none⟩ v0).setCell ⟨B, 1, none⟩ v1).setCell ⟨B, 2, none⟩ v2).setCell ⟨B, 3, none⟩ v3).setCell ⟨B, 4, none⟩ v4).setCell ⟨B, 5, none⟩ v5).setCell ⟨B, 6, none⟩ v6).setCell ⟨B, 7, none⟩ v7).setCell ⟨B, 8, none⟩ v8).setCell ⟨B, 9, none⟩ v9).setCell ⟨B, 10, none⟩ v10) :=
  ((((((((((h.store (o := 0) (by simp [tcells]) v0).store (o := 1) (by simp [tcells]) v1).store (o := 2) (by simp [tcells]) v2).store (o := 3) (by simp [tcells]) v3).store (o := 4) (by simp [tcells]) v4).store (o := 5) (by simp [tcells]) v5).store (o := 6) (by simp [tcells]) v6).store (o := 7) (by simp [tcells]) v7).store (o := 8) (by simp [tcells]) v8).store (o := 9) (by simp [tcells]) v9).store (o := 10) (by simp [tcells]) v10
theorem GotsR.set {w : World} {A : Option Addr} {m cp C o : Nat} (h : GotsR w A m cp) (hne : ∀ b off, A = some ⟨b, off, none⟩ → C ≠ b) (x : Value) : GotsR (w.setCell ⟨C, o, none⟩ x) A m cp := by
  obtain ⟨h1, h2, xs, h3, h4⟩ := h
  refine ⟨h1, h2, xs, h3, fun hm => ?_⟩
  obtain ⟨b, off, e, hB, hc⟩ := h4 hm
  refine ⟨b, off, e, by simpa using hB, fun j u hu => ?_⟩
  rw [World.cell?_setCell_other _ _ _ _ (by intro e3; injection e3 with e3 _; exact hne b off e e3)]
  exact hc j u hu
theorem GotsR.set11 {w : World} {A : Option Addr} {m cp C : Nat} (h : GotsR w A m cp) (hne : ∀ b off, A = some ⟨b, off, none⟩ → C ≠ b) (v0 v1 v2 v3 v4 v5 v6 v7 v8 v9 v10 : Value) :
    GotsR (((((((((((w.setCell ⟨C, 0, none⟩ v0).setCell ⟨C, 1, none⟩ v1).setCell ⟨C, 2, none⟩ v2).setCell ⟨C, 3, none⟩ v3).setCell ⟨C, 4, none⟩ v4).setCell ⟨C, 5, none⟩ v5).setCell ⟨C, 6, none⟩ v6).setCell ⟨C, 7, none⟩ v7).setCell ⟨C, 8, none⟩ v8).setCell ⟨C, 9, none⟩ v9).setCell ⟨C, 10, none⟩ v10) A m cp :=
  ((((((((((h.set hne v0).set hne v1).set hne v2).set hne v3).set hne v4).set hne v5).set hne v6).set hne v7).set hne v8).set hne v9).set hne v10
theorem BoxC.far11 {B C : Nat} {cs : List Value} {w : World} (h : BoxC B cs w) (hne : C ≠ B) (v0 v1 v2 v3 v4 v5 v6 v7 v8 v9 v10 : Value) :
    BoxC B cs (((((((((((w.setCell ⟨C, 0, none⟩ v0).setCell ⟨C, 1, none⟩ v1).setCell ⟨C, 2, none⟩ v2).setCell ⟨C, 3, none⟩ v3).setCell ⟨C, 4, none⟩ v4).setCell ⟨C, 5, none⟩ v5).setCell ⟨C, 6, none⟩ v6).setCell ⟨C, 7, none⟩ v7).setCell ⟨C, 8, none⟩ v8).setCell ⟨C, 9, none⟩ v9).setCell ⟨C, 10, none⟩ v10) :=
  ((((((((((h.far hne v0).far hne v1).far hne v2).far hne v3).far hne v4).far hne v5).far hne v6).far hne v7).far hne v8).far hne v9).far hne v10
end Go.Proofs.Ytfldjbojonbmpaa
