/- A struct variable's cells as one fact; a row of memory words as one fact. -/
import Derived.Test.YtapjfhbonfehpaaGreatDoorV09
import Derived.Test.YtapjfhbonfehpaaGreatDoorV14
set_option linter.unusedSimpArgs false
set_option linter.unusedVariables false
namespace Go.Proofs.YtapjfhbonfehpaaGreatDoor
open Go.RowKit
def Mem (b : Nat) (ws : List W3) (w : World) : Prop := (∀ (i : Nat) (x : W3), ws[i]? = some x → w.cell? ⟨b, i * 3, none⟩ = some (.int .i64 x.v) ∧ w.cell? ⟨b, i * 3 + 1, none⟩ = some (.int .u32 x.r) ∧ w.cell? ⟨b, i * 3 + 2, none⟩ = some (.int .u32 x.f)) ∧ (∀ o, w.frozen? ⟨b, o, none⟩ = false) ∧ b < w.heap.size
theorem Mem.below {b B : Nat} {ws : List W3} {w w' : World} (h : Mem b ws w) (hb : Below B w w') (hB : b < B) : Mem b ws w' := by
 obtain ⟨h1, h2, h3⟩ := h;refine ⟨fun i x hx => ?_, fun o => (hb.frozen (p := ⟨b, o, none⟩) hB).trans (h2 o), Nat.lt_of_lt_of_le h3 hb.size⟩;obtain ⟨a, c, d⟩ := h1 i x hx;exact ⟨(hb.cell (p := ⟨b, i * 3, none⟩) hB).trans a, (hb.cell (p := ⟨b, i * 3 + 1, none⟩) hB).trans c, (hb.cell (p := ⟨b, i * 3 + 2, none⟩) hB).trans d⟩
theorem Mem.grow {b : Nat} {ws : List W3} {w w' : World} (h : Mem b ws w) (hb : Below w.heap.size w w') : Mem b ws w' := h.below hb h.2.2
theorem Mem.setV {b k : Nat} {ws : List W3} {w : World} (h : Mem b ws w) {x : W3} (hx : ws[k]? = some x) (v : Int) : Mem b (ws.set k ⟨v, x.r, x.f⟩) (w.setCell ⟨b, k * 3, none⟩ (.int .i64 v)) := by
 obtain ⟨h1, h2, h3⟩ := h;have hkl : k < ws.length := (List.getElem?_eq_some_iff.1 hx).1;refine ⟨fun i y hy => ?_, fun o => by rw [World.frozen?_setCell]; exact h2 o, by simpa using h3⟩;have far : ∀ q, q ≠ k * 3 → (w.setCell ⟨b, k * 3, none⟩ (.int .i64 v)).cell? ⟨b, q, none⟩ = w.cell? ⟨b, q, none⟩ := fun q hq => World.cell?_setCell_other _ _ _ _ (by intro e; injection e with _ e; exact hq e.symm);rw [List.getElem?_set] at hy;by_cases hki : k = i
 ·subst hki;rw [if_pos rfl, if_pos hkl] at hy;injection hy with hy
  subst hy;obtain ⟨a, c, d⟩ := h1 k x hx;exact ⟨World.cell?_setCell_same _ _ _ a, by rw [far _ oM]; exact c, by rw [far _ oM]; exact d⟩
 ·rw [if_neg hki] at hy;obtain ⟨a, c, d⟩ := h1 i y hy;exact ⟨by rw [far _ oM]; exact a, by rw [far _ oM]; exact c, by rw [far _ oM]; exact d⟩
theorem Mem.set3 {b k : Nat} {ws : List W3} {w : World} (h : Mem b ws w) (hk : k < ws.length) (y : W3) : Mem b (ws.set k y) (((w.setCell ⟨b, k * 3, none⟩ (.int .i64 y.v)).setCell ⟨b, k * 3 + 1, none⟩ (.int .u32 y.r)).setCell ⟨b, k * 3 + 2, none⟩ (.int .u32 y.f)) := by
 obtain ⟨h1, h2, h3⟩ := h;refine ⟨fun i z hz => ?_, fun o => by rw [World.frozen?_setCell, World.frozen?_setCell, World.frozen?_setCell]; exact h2 o, by simpa using h3⟩;have ne : ∀ p q : Nat, p ≠ q → (⟨b, p, none⟩ : Addr) ≠ ⟨b, q, none⟩ := fun p q Ox e => by injection e with _ e; exact Ox e
 rw [List.getElem?_set] at hz;by_cases hki : k = i
 ·subst hki;rw [if_pos rfl, if_pos hk] at hz;injection hz with hz
  subst hz;obtain ⟨a, c, d⟩ := h1 k _ (List.getElem?_eq_getElem hk);have c' : (w.setCell ⟨b, k * 3, none⟩ (.int .i64 y.v)).cell? ⟨b, k * 3 + 1, none⟩ = some (.int .u32 (ws[k]).r) := by rw [World.cell?_setCell_other _ _ _ _ (ne _ _ oM)]; exact c
  have d' : ((w.setCell ⟨b, k * 3, none⟩ (.int .i64 y.v)).setCell ⟨b, k * 3 + 1, none⟩ (.int .u32 y.r)).cell? ⟨b, k * 3 + 2, none⟩ = some (.int .u32 (ws[k]).f) := by
   rw [World.cell?_setCell_other _ _ _ _ (ne _ _ oM), World.cell?_setCell_other _ _ _ _ (ne _ _ oM)]; exact d
  refine ⟨?_, ?_, World.cell?_setCell_same _ _ _ d'⟩
  ·rw [World.cell?_setCell_other _ _ _ _ (ne _ _ oM), World.cell?_setCell_other _ _ _ _ (ne _ _ oM)];exact World.cell?_setCell_same _ _ _ a
  ·rw [World.cell?_setCell_other _ _ _ _ (ne _ _ oM)];exact World.cell?_setCell_same _ _ _ c'
 ·rw [if_neg hki] at hz;obtain ⟨a, c, d⟩ := h1 i z hz;refine ⟨?_, ?_, ?_⟩;all_goals rw [World.cell?_setCell_other _ _ _ _ (ne _ _ oM), World.cell?_setCell_other _ _ _ _ (ne _ _ oM), World.cell?_setCell_other _ _ _ _ (ne _ _ oM)]
  ·exact a
  ·exact c
  ·exact d
theorem Mem.w0 {b k : Nat} {ws : List W3} {w : World} (h : Mem b ws w) {x : W3} (hx : ws[k]? = some x) : w.cell? ⟨b, k * 3, none⟩ = some (.int .i64 x.v) := (h.1 k x hx).1
theorem Mem.w1 {b k : Nat} {ws : List W3} {w : World} (h : Mem b ws w) {x : W3} (hx : ws[k]? = some x) : w.cell? ⟨b, k * 3 + 1, none⟩ = some (.int .u32 x.r) := (h.1 k x hx).2.1
theorem Mem.w2 {b k : Nat} {ws : List W3} {w : World} (h : Mem b ws w) {x : W3} (hx : ws[k]? = some x) : w.cell? ⟨b, k * 3 + 2, none⟩ = some (.int .u32 x.f) := (h.1 k x hx).2.2
theorem kC {ws : List W3} {k : Nat} (hk : k < ws.length) : ws[k]? = some (ws.getD k z3) := by rw [List.getD_eq_getElem?_getD, List.getElem?_eq_getElem hk]; rfl
structure bB (g B : Nat) (w w' : World) : Prop where
 os : w'.os = w.os
 tape : w'.tape = w.tape
 output : w'.output = w.output
 size : w.heap.size ≤ w'.heap.size
 block : ∀ k, k < B → k ≠ g → w'.heap[k]? = w.heap[k]?
theorem bB.refl (g B : Nat) (w : World) : bB g B w w := ⟨rfl, rfl, rfl, Nat.le_refl _, fun _ _ _ => rfl⟩
theorem bB.trans {g B : Nat} {a b c : World} (h : bB g B a b) (k : bB g B b c) : bB g B a c :=
 ⟨k.os.trans h.os, k.tape.trans h.tape, k.output.trans h.output, Nat.le_trans h.size k.size, fun i hi hg => (k.block i hi hg).trans (h.block i hi hg)⟩
theorem bB.mono {g B B' : Nat} {w w' : World} (h : bB g B w w') (hB : B' ≤ B) : bB g B' w w' := ⟨h.os, h.tape, h.output, h.size, fun k hk => h.block k (Nat.lt_of_lt_of_le hk hB)⟩
theorem bB.drew {g B : Nat} {a w : World} (h : bB g B a w) : bB g B a w.drew := ⟨h.os, h.tape, h.output, h.size, h.block⟩
theorem bB.drewN {g B : Nat} {a w : World} (h : bB g B a w) (n : Nat) : bB g B a (w.drewN n) := ⟨h.os, h.tape, h.output, h.size, h.block⟩
theorem bB.alloc {g B : Nat} {a w : World} (h : bB g B a w) (hB : B ≤ w.heap.size) (o : Obj) : bB g B a (w.alloc o) :=
 h.trans ⟨rfl, rfl, rfl, by simp, fun k hk _ => Below.heap_alloc _ _ _ oM⟩
theorem bB.setCell {g B : Nat} {a w : World} (h : bB g B a w) {p : Addr} (hp : p.block = g ∨ B ≤ p.block) (u : Value) : bB g B a (w.setCell p u) :=
 h.trans ⟨rfl, rfl, rfl, by simp [World.setCell], fun k hk hg => Below.heap_setCell _ _ _ _ oM⟩
theorem bB.of {g B : Nat} {a w w' : World} (h : bB g B a w) (hb : Below B w w') : bB g B a w' :=
 h.trans ⟨hb.os, hb.tape, hb.output, hb.size, fun k hk _ => hb.block k hk⟩
theorem bB.below {g B B' : Nat} {w w' : World} (h : bB g B w w') (hB : B' ≤ B) (hg : B' ≤ g) : Below B' w w' := ⟨h.os, h.tape, h.output, h.size, fun k hk => h.block k oM oM⟩
theorem bB.cell {g B : Nat} {w w' : World} (h : bB g B w w') {p : Addr} (hp : p.block < B) (hg : p.block ≠ g) : w'.cell? p = w.cell? p := World.cell?_of_block (w := w) (h.block p.block hp hg)
theorem bB.frozen {g B : Nat} {w w' : World} (h : bB g B w w') {p : Addr} (hp : p.block < B) (hg : p.block ≠ g) : w'.frozen? p = w.frozen? p := World.frozen?_of_block (w := w) (h.block p.block hp hg)
theorem cU {g B : Nat} {w u : World} {p : Addr} {v : Option Value} (h : bB g B w u) (e : w.cell? p = v) (hp : p.block < B) (hg : p.block ≠ g) : u.cell? p = v := (h.cell hp hg).trans e
theorem Mem.but {b g B : Nat} {ws : List W3} {w w' : World} (h : Mem b ws w) (hb : bB g B w w') (hB : b < B) (hg : b ≠ g) : Mem b ws w' := by
 obtain ⟨h1, h2, h3⟩ := h;refine ⟨fun i x hx => ?_, fun o => (hb.frozen (p := ⟨b, o, none⟩) hB hg).trans (h2 o), Nat.lt_of_lt_of_le h3 hb.size⟩;obtain ⟨a, c, d⟩ := h1 i x hx;exact ⟨(hb.cell (p := ⟨b, i * 3, none⟩) hB hg).trans a, (hb.cell (p := ⟨b, i * 3 + 1, none⟩) hB hg).trans c, (hb.cell (p := ⟨b, i * 3 + 2, none⟩) hB hg).trans d⟩
theorem Rd.but {w w' : World} {g B size n : Nat} {A : Option Addr} {xs : List Value} (h : Rd w B size A n xs) (hb : bB g B w w') (hg : ∀ b off, A = some ⟨b, off, none⟩ → b ≠ g) : Rd w' B size A n xs :=
 ⟨h.1, fun hn => by
  obtain ⟨b, off, e, hB, hc⟩ := h.2 hn;exact ⟨b, off, e, hB, fun j u hu => (hb.cell (p := ⟨b, off + j, none⟩) hB (hg b off e)).trans (hc j u hu)⟩⟩
theorem aB.but {b g B : Nat} {cs : List Value} {w w' : World} (h : aB b cs w) (hb : bB g B w w') (hB : b < B) (hg : b ≠ g) : aB b cs w' := by
 obtain ⟨h1, h2, h3⟩ := h;exact ⟨fun j u hu => (hb.cell (p := ⟨b, j, none⟩) hB hg).trans (h1 j u hu), fun o => (hb.frozen (p := ⟨b, o, none⟩) hB hg).trans (h2 o), Nat.lt_of_lt_of_le h3 hb.size⟩
theorem FW {g B : Nat} {w w' : World} (hb : bB g B w w') (hB : 0 < B) (hg : 0 < g) (k : Nat) : w'.cell? ⟨0, k, none⟩ = w.cell? ⟨0, k, none⟩ := hb.cell (p := ⟨0, k, none⟩) hB (by show 0 ≠ g; omega)
theorem sr (x : W3) : (ig x).length = 3 := rfl
theorem kF (ws : List W3) : (ws.flatMap ig).length = ws.length * 3 := by
 induction ws with
 | nil => rfl
 | cons x ws ih => rw [List.flatMap_cons, List.length_append, ih, sr, List.length_cons]; omega
theorem xg (ws : List W3) : ∀ u ∈ ws.flatMap ig, u.oneCell' = true := by
 intro u hu;rw [List.mem_flatMap] at hu;obtain ⟨x, _, hu⟩ := hu;simp only [ig, List.mem_cons, List.not_mem_nil, or_false] at hu;rcases hu with rfl | rfl | rfl <;> rfl
theorem np (ws : List W3) {k : Nat} {x : W3} (h : ws[k]? = some x) : ∀ j, j < 3 → (ws.flatMap ig)[k * 3 + j]? = (ig x)[j]? := dn (g := ig) sr ws k x h
theorem Mem.rd {b : Nat} {ws : List W3} {w : World} (h : Mem b ws w) : Rd w w.heap.size 3 (some ⟨b, 0, none⟩) ws.length (ws.flatMap ig) := by
 refine ⟨kF ws, fun _ => ⟨b, 0, rfl, h.2.2, fun j u hu => ?_⟩⟩;have hj := (List.getElem?_eq_some_iff.1 hu).1;rw [kF] at hj;have hk : j / 3 < ws.length := by omega
 have hx := List.getElem?_eq_getElem hk;have hr := np ws hx (j % 3) oM;rw [show j / 3 * 3 + j % 3 = j by omega, hu] at hr;obtain ⟨a, c, d⟩ := h.1 _ _ hx;rw [Nat.zero_add];have hm : j % 3 = 0 ∨ j % 3 = 1 ∨ j % 3 = 2 := by omega
 rcases hm with e | e | e
 ·rw [e] at hr; injection hr with hr; subst hr
  have ej : j / 3 * 3 = j := by omega
  rw [ej] at a; exact a
 ·rw [e] at hr; injection hr with hr; subst hr
  have ej : j / 3 * 3 + 1 = j := by omega
  rw [ej] at c; exact c
 ·rw [e] at hr; injection hr with hr; subst hr
  have ej : j / 3 * 3 + 2 = j := by omega
  rw [ej] at d; exact d
theorem Mem.of_own {w : World} {base n cap g : Nat} {e : TypeId} {ws : List W3} (h : w.ownsRow base e 3 (.slice (some ⟨g, 0, none⟩) n cap) n (ws.flatMap ig)) (hn : 0 < n) : Mem g ws w ∧ base ≤ g ∧ ws.length = n := by
 have hl : ws.length = n := by have := h.1; rw [kF] at this; omega
 have hlt := h.lt g rfl;refine ⟨⟨fun i x hx => ?_, fun o => h.frozenAt o, hlt.2⟩, hlt.1, hl⟩;have hi := (List.getElem?_eq_some_iff.1 hx).1;have hf := np ws hx;refine ⟨?_, ?_, ?_⟩
 ·rw [h.cellAt (i * 3) oM]; exact hf 0 oM
 ·rw [h.cellAt (i * 3 + 1) oM]; exact hf 1 oM
 ·rw [h.cellAt (i * 3 + 2) oM]; exact hf 2 oM
theorem dL {α β : Type} (f : β → α → β) (o : β) (l : List α) {k : Nat} {a : α} (h : l[k]? = some a) : (l.take (k + 1)).foldl f o = f ((l.take k).foldl f o) a := by
 rw [List.take_add_one, h, List.foldl_append]; rfl
end Go.Proofs.YtapjfhbonfehpaaGreatDoor
