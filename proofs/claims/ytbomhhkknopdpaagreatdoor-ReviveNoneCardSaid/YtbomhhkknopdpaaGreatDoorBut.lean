/- One block apart, the blocks below a number are as they were. A row of memory words of the call's own. No program. -/
import Derived.Test.YtbomhhkknopdpaaGreatDoorBx
namespace Go.Proofs.YtbomhhkknopdpaaGreatDoor
set_option linter.unusedSimpArgs false
set_option linter.unusedVariables false
open Go.RowKit
/-- Below block number B, g apart, w' is as w was. -/
structure But (g B : Nat) (w w' : World) : Prop where
  os : w'.os = w.os
  tape : w'.tape = w.tape
  output : w'.output = w.output
  size : w.heap.size ≤ w'.heap.size
  block : ∀ k, k < B → k ≠ g → w'.heap[k]? = w.heap[k]?
theorem But.refl (g B : Nat) (w : World) : But g B w w := ⟨rfl, rfl, rfl, Nat.le_refl _, fun _ _ _ => rfl⟩
theorem But.trans {g B : Nat} {a b c : World} (h : But g B a b) (k : But g B b c) : But g B a c :=
  ⟨k.os.trans h.os, k.tape.trans h.tape, k.output.trans h.output, Nat.le_trans h.size k.size, fun i hi hg => (k.block i hi hg).trans (h.block i hi hg)⟩
theorem But.mono {g B B' : Nat} {w w' : World} (h : But g B w w') (hB : B' ≤ B) : But g B' w w' := ⟨h.os, h.tape, h.output, h.size, fun k hk => h.block k (Nat.lt_of_lt_of_le hk hB)⟩
theorem But.drew {g B : Nat} {a w : World} (h : But g B a w) : But g B a w.drew := ⟨h.os, h.tape, h.output, h.size, h.block⟩
theorem But.drewN {g B : Nat} {a w : World} (h : But g B a w) (n : Nat) : But g B a (w.drewN n) := ⟨h.os, h.tape, h.output, h.size, h.block⟩
theorem But.alloc {g B : Nat} {a w : World} (h : But g B a w) (hB : B ≤ w.heap.size) (o : Obj) : But g B a (w.alloc o) :=
  h.trans ⟨rfl, rfl, rfl, by simp, fun k hk _ => Below.heap_alloc _ _ _ (by omega)⟩
theorem But.setCell {g B : Nat} {a w : World} (h : But g B a w) {p : Addr} (hp : p.block = g ∨ B ≤ p.block) (u : Value) : But g B a (w.setCell p u) :=
  h.trans ⟨rfl, rfl, rfl, by simp [World.setCell], fun k hk hg => Below.heap_setCell _ _ _ _ (by omega)⟩
theorem But.of {g B : Nat} {a w w' : World} (h : But g B a w) (hb : Below B w w') : But g B a w' :=
  h.trans ⟨hb.os, hb.tape, hb.output, hb.size, fun k hk _ => hb.block k hk⟩
theorem But.below {g B B' : Nat} {w w' : World} (h : But g B w w') (hB : B' ≤ B) (hg : B' ≤ g) : Below B' w w' := ⟨h.os, h.tape, h.output, h.size, fun k hk => h.block k (by omega) (by omega)⟩
theorem But.cell {g B : Nat} {w w' : World} (h : But g B w w') {p : Addr} (hp : p.block < B) (hg : p.block ≠ g) : w'.cell? p = w.cell? p := World.cell?_of_block (w := w) (h.block p.block hp hg)
theorem But.frozen {g B : Nat} {w w' : World} (h : But g B w w') {p : Addr} (hp : p.block < B) (hg : p.block ≠ g) : w'.frozen? p = w.frozen? p := World.frozen?_of_block (w := w) (h.block p.block hp hg)
theorem Mem.but {b g B : Nat} {ws : List W3} {w w' : World} (h : Mem b ws w) (hb : But g B w w') (hB : b < B) (hg : b ≠ g) : Mem b ws w' := by
  obtain ⟨h1, h2, h3⟩ := h
  refine ⟨fun i x hx => ?_, fun o => (hb.frozen (p := ⟨b, o, none⟩) hB hg).trans (h2 o), Nat.lt_of_lt_of_le h3 hb.size⟩
  obtain ⟨a, c, d⟩ := h1 i x hx
  exact ⟨(hb.cell (p := ⟨b, i * 3, none⟩) hB hg).trans a, (hb.cell (p := ⟨b, i * 3 + 1, none⟩) hB hg).trans c, (hb.cell (p := ⟨b, i * 3 + 2, none⟩) hB hg).trans d⟩
theorem Rd.but {w w' : World} {g B size n : Nat} {A : Option Addr} {xs : List Value} (h : Rd w B size A n xs) (hb : But g B w w') (hg : ∀ b off, A = some ⟨b, off, none⟩ → b ≠ g) : Rd w' B size A n xs :=
  ⟨h.1, fun hn => by
    obtain ⟨b, off, e, hB, hc⟩ := h.2 hn
    exact ⟨b, off, e, hB, fun j u hu => (hb.cell (p := ⟨b, off + j, none⟩) hB (hg b off e)).trans (hc j u hu)⟩⟩
theorem BoxC.but {b g B : Nat} {cs : List Value} {w w' : World} (h : BoxC b cs w) (hb : But g B w w') (hB : b < B) (hg : b ≠ g) : BoxC b cs w' := by
  obtain ⟨h1, h2, h3⟩ := h
  exact ⟨fun j u hu => (hb.cell (p := ⟨b, j, none⟩) hB hg).trans (h1 j u hu), fun o => (hb.frozen (p := ⟨b, o, none⟩) hB hg).trans (h2 o), Nat.lt_of_lt_of_le h3 hb.size⟩
theorem Sizes_but {g B : Nat} {w w' : World} (hb : But g B w w') (hB : 0 < B) (hg : 0 < g) (k : Nat) : w'.cell? ⟨0, k, none⟩ = w.cell? ⟨0, k, none⟩ := hb.cell (p := ⟨0, k, none⟩) hB (by show 0 ≠ g; omega)

/-- A row of memory words can be read. -/
theorem w3c_len (x : W3) : (w3c x).length = 3 := rfl
theorem flat_len (ws : List W3) : (ws.flatMap w3c).length = ws.length * 3 := by
  induction ws with
  | nil => rfl
  | cons x ws ih => rw [List.flatMap_cons, List.length_append, ih, w3c_len, List.length_cons]; omega
theorem flat_ones (ws : List W3) : ∀ u ∈ ws.flatMap w3c, u.oneCell' = true := by
  intro u hu
  rw [List.mem_flatMap] at hu
  obtain ⟨x, _, hu⟩ := hu
  simp only [w3c, List.mem_cons, List.not_mem_nil, or_false] at hu
  rcases hu with rfl | rfl | rfl <;> rfl
theorem flat_at (ws : List W3) {k : Nat} {x : W3} (h : ws[k]? = some x) : ∀ j, j < 3 → (ws.flatMap w3c)[k * 3 + j]? = (w3c x)[j]? := told_at (g := w3c) w3c_len ws k x h
theorem Mem.rd {b : Nat} {ws : List W3} {w : World} (h : Mem b ws w) : Rd w w.heap.size 3 (some ⟨b, 0, none⟩) ws.length (ws.flatMap w3c) := by
  refine ⟨flat_len ws, fun _ => ⟨b, 0, rfl, h.2.2, fun j u hu => ?_⟩⟩
  have hj := (List.getElem?_eq_some_iff.1 hu).1
  rw [flat_len] at hj
  have hk : j / 3 < ws.length := by omega
  have hx := List.getElem?_eq_getElem hk
  have hr := flat_at ws hx (j % 3) (by omega)
  rw [show j / 3 * 3 + j % 3 = j by omega, hu] at hr
  obtain ⟨a, c, d⟩ := h.1 _ _ hx
  rw [Nat.zero_add]
  have hm : j % 3 = 0 ∨ j % 3 = 1 ∨ j % 3 = 2 := by omega
  rcases hm with e | e | e
  · rw [e] at hr; injection hr with hr; subst hr
    have ej : j / 3 * 3 = j := by omega
    rw [ej] at a; exact a
  · rw [e] at hr; injection hr with hr; subst hr
    have ej : j / 3 * 3 + 1 = j := by omega
    rw [ej] at c; exact c
  · rw [e] at hr; injection hr with hr; subst hr
    have ej : j / 3 * 3 + 2 = j := by omega
    rw [ej] at d; exact d
theorem Mem.of_own {w : World} {base n cap g : Nat} {e : TypeId} {ws : List W3} (h : w.ownsRow base e 3 (.slice (some ⟨g, 0, none⟩) n cap) n (ws.flatMap w3c)) (hn : 0 < n) : Mem g ws w ∧ base ≤ g ∧ ws.length = n := by
  have hl : ws.length = n := by have := h.1; rw [flat_len] at this; omega
  have hlt := h.lt g rfl
  refine ⟨⟨fun i x hx => ?_, fun o => h.frozenAt o, hlt.2⟩, hlt.1, hl⟩
  have hi := (List.getElem?_eq_some_iff.1 hx).1
  have hf := flat_at ws hx
  refine ⟨?_, ?_, ?_⟩
  · rw [h.cellAt (i * 3) (by omega)]; exact hf 0 (by omega)
  · rw [h.cellAt (i * 3 + 1) (by omega)]; exact hf 1 (by omega)
  · rw [h.cellAt (i * 3 + 2) (by omega)]; exact hf 2 (by omega)
theorem foldl_take_succ {α β : Type} (f : β → α → β) (o : β) (l : List α) {k : Nat} {a : α} (h : l[k]? = some a) : (l.take (k + 1)).foldl f o = f ((l.take k).foldl f o) a := by
  rw [List.take_add_one, h, List.foldl_append]; rfl
end Go.Proofs.YtbomhhkknopdpaaGreatDoor
