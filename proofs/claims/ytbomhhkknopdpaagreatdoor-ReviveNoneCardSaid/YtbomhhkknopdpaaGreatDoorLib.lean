/- Small facts on worlds, slices that can be read, and the arguments of a law; no program is named here. -/
import Derived.WalkKit
import Derived.ProofKit
import Derived.OpenShut
import Derived.Deep.Slices
import Derived.Deep.Fields
import Derived.ChangeSame
import Derived.Deep.Draws
namespace Go.Proofs.YtbomhhkknopdpaaGreatDoor
set_option linter.unusedSimpArgs false
set_option linter.unusedVariables false
open Go.ChangeShapes Go.WideShapes Go.ChangeAt Go.RowKit Go.Deep

/-- What lies below a block that a callee leaves alone reads as before. -/
theorem bcell {W w1 : World} (hb : Below W.heap.size W w1) : (∀ b o, b < W.heap.size → w1.cell? ⟨b, o, none⟩ = W.cell? ⟨b, o, none⟩) ∧ (∀ b o, b < W.heap.size → w1.frozen? ⟨b, o, none⟩ = W.frozen? ⟨b, o, none⟩) :=
  ⟨fun b o h => hb.cell (p := ⟨b, o, none⟩) h, fun b o h => hb.frozen (p := ⟨b, o, none⟩) h⟩

theorem bcellB {B : Nat} {W w1 : World} (hb : Below B W w1) : (∀ b o, b < B → w1.cell? ⟨b, o, none⟩ = W.cell? ⟨b, o, none⟩) ∧ (∀ b o, b < B → w1.frozen? ⟨b, o, none⟩ = W.frozen? ⟨b, o, none⟩) :=
  ⟨fun b o h => hb.cell (p := ⟨b, o, none⟩) h, fun b o h => hb.frozen (p := ⟨b, o, none⟩) h⟩
theorem snoc_ind {α : Type} {P : List α → Prop} (h0 : P []) (h1 : ∀ l a, P l → P (l ++ [a])) (l : List α) : P l := by
  have h : ∀ r : List α, P r.reverse := by
    intro r
    induction r with
    | nil => exact h0
    | cons a r ih => rw [List.reverse_cons]; exact h1 _ _ ih
  rw [← List.reverse_reverse l]
  exact h _
theorem ret_int {k : IntKind} {a b : Int} (h : a = b) : Ending.returned (.int k a) = .returned (.int k b) := by rw [h]
theorem below_drewN {B : Nat} {a w : World} (h : Below B a w) (n : Nat) : Below B a (w.drewN n) := ⟨h.os, h.tape, h.output, h.size, h.block⟩
theorem hide {p : Prop} (h : p) : Hid p := h
theorem cell_lt {w : World} {a : Addr} {v : Value} (h : w.cell? a = some v) : a.block < w.heap.size := by
  rcases Nat.lt_or_ge a.block w.heap.size with hl | hg
  · exact hl
  · exfalso
    unfold World.cell? at h
    rw [Array.getElem?_eq_none hg] at h
    simp at h

/-- A slice (its address, its length) whose cells are xs, 'size' cells an element, in a block below B. -/
def Rd (w : World) (B size : Nat) (A : Option Addr) (n : Nat) (xs : List Value) : Prop :=
  xs.length = n * size ∧ (0 < n → ∃ b off, A = some ⟨b, off, none⟩ ∧ b < B ∧ ∀ j u, xs[j]? = some u → w.cell? ⟨b, off + j, none⟩ = some u)

section
variable {w w' : World} {B B' size : Nat} {A : Option Addr} {n : Nat} {xs : List Value}
theorem Rd.nil (w : World) (B size : Nat) (A : Option Addr) : Rd w B size A 0 [] := ⟨by simp, fun h => absurd h (Nat.lt_irrefl 0)⟩
theorem Rd.below (h : Rd w B size A n xs) (hb : Below B w w') : Rd w' B size A n xs :=
  ⟨h.1, fun hn => by
    obtain ⟨b, off, e, hB, hc⟩ := h.2 hn
    exact ⟨b, off, e, hB, fun j u hu => (hb.cell (p := ⟨b, off + j, none⟩) hB).trans (hc j u hu)⟩⟩
theorem Rd.more (h : Rd w B size A n xs) (hB : B ≤ B') : Rd w B' size A n xs :=
  ⟨h.1, fun hn => by
    obtain ⟨b, off, e, h1, hc⟩ := h.2 hn
    exact ⟨b, off, e, Nat.lt_of_lt_of_le h1 hB, hc⟩⟩
theorem Rd.at_ (h : Rd w B size A n xs) {k : Nat} (hk : k < n) : ∃ b off, A = some ⟨b, off, none⟩ ∧ b < B ∧ ∀ j u, xs[j]? = some u → w.cell? ⟨b, off + j, none⟩ = some u := h.2 (by omega)
theorem Rd.of_own {base : Nat} {e : TypeId} {v : Value} (h : w.ownsRow base e size v n xs) : ∃ A cap, v = .slice A n cap ∧ Rd w w.heap.size size A n xs := by
  have hc := @World.ownsRow.cells _ _ _ _ _ _ _ h
  have hlt := h.lt
  obtain ⟨h1, h2⟩ := h
  rcases h2 with ⟨rfl, rfl⟩ | ⟨g, cap, cur, rfl, hg, hh, _⟩
  · obtain rfl : xs = [] := List.eq_nil_of_length_eq_zero (by simpa using h1)
    exact ⟨none, 0, rfl, Rd.nil _ _ _ _⟩
  · refine ⟨_, cap, rfl, h1, fun hn => ⟨g, 0, rfl, (hlt g rfl).2, fun j u hu => ?_⟩⟩
    have := hc (g := g) rfl j u hu
    rw [Go.WideShapes.add_plain] at this
    simpa using this
end

section
variable {H : Type} {enc : TypeId × Value → H} {P : Program} {w : World} {base : Nat} {spare : Nat → Bool} {held : Bool}

theorem plain_of_cells {w : World} {a : Addr} {n : Nat} {f : Nat → Value} (h : ∀ i, i < n → w.cell? (a.add i) = some (f i)) (hp : 0 < n) : ∃ b off, a = ⟨b, off, none⟩ ∧ b < w.heap.size ∧ ∀ j, j < n → w.cell? ⟨b, off + j, none⟩ = some (f j) := by
  obtain ⟨b, off, spot⟩ := a
  have hspot : spot = none := by simpa [Addr.add] using World.cell?_spot (h 0 hp)
  subst hspot
  have h0 := h 0 hp
  rw [Go.WideShapes.add_plain] at h0
  exact ⟨b, off, rfl, cell_lt h0, fun j hj => by rw [← Go.WideShapes.add_plain]; exact h j hj⟩

/-- A slice of integers that came in. -/
theorem rd_ints {t e : TypeId} {k : IntKind} {v : Value} {d : DataW H} {p : List MemPlace} {r : Reach} {b0 : Nat} (ht : P.underlying t = some (.slice e)) (he : P.underlying e = some (.int k)) (hc : P.cellsOf e = 1)
    (hv : Value.okWide P w r b0 t v) (h : DataW.Trod enc P w base spare held t v d p) :
    ∃ (A : Option Addr) (n cap : Nat) (zs : List Int), v = .slice A n cap ∧ n ≤ maxLen ∧ zs.length = n ∧ Rd w w.heap.size 1 A n (zs.map (Value.int k)) ∧ ∀ z ∈ zs, (Lit.int k z).wf = true := by
  obtain ⟨A, n, cap, rfl⟩ := okWide_slice ht hv
  obtain ⟨fuel, hf⟩ := h
  rcases open_ints ht he hc hf with ⟨hcs, hx⟩ | ⟨a, len, cap', zs, hcs, _, hl, hm, hz, hx, hcell, hwz⟩
  · simp [Value.cells] at hcs
    obtain ⟨rfl, rfl, rfl⟩ := hcs
    exact ⟨none, 0, 0, [], rfl, Nat.zero_le _, rfl, Rd.nil _ _ _ _, by simp⟩
  · simp [Value.cells] at hcs
    obtain ⟨rfl, rfl, rfl⟩ := hcs
    have hlen : n ≤ zs.length := by rw [hz]; split <;> omega
    refine ⟨some a, n, cap, zs.take n, rfl, by omega, by simp [hlen], ⟨by simp [hlen], fun hn => ?_⟩, fun z hz' => hwz z (List.mem_of_mem_take hz')⟩
    obtain ⟨b, off, rfl, hb, hcell'⟩ := plain_of_cells (n := n) (f := fun j => Value.int k (zs.getD j 0)) (fun i hi => hcell i (by omega)) hn
    refine ⟨b, off, rfl, hb, fun j u hu => ?_⟩
    rw [List.getElem?_map, Option.map_eq_some_iff] at hu
    obtain ⟨z, hz1, rfl⟩ := hu
    rw [List.getElem?_take] at hz1
    split at hz1
    · rw [hcell' j (by omega), List.getD_eq_getElem?_getD, hz1]
      rfl
    · cases hz1

/-- A slice of structs of one-cell fields that came in: the raw cells, each field with its own reading. -/
theorem rd_structs {t e : TypeId} {fs : Array Field} {v : Value} {d : DataW H} {p : List MemPlace} {r : Reach} {b0 : Nat} (ht : P.underlying t = some (.slice e)) (he : P.underlying e = some (.struct fs))
    (hone : oneCellFields P fs = true) (hC : P.cellsOf e = fs.size) (hpos : 0 < fs.size) (hv : Value.okWide P w r b0 t v) (h : DataW.Trod enc P w base spare held t v d p) :
    ∃ (A : Option Addr) (n cap : Nat) (xs : List Value), v = .slice A n cap ∧ n ≤ maxLen ∧ Rd w w.heap.size fs.size A n xs ∧
      ∀ i, i < n → ∃ m : Nat, ∀ (j : Nat) (f : Field), fs[j]? = some f → ∃ (u : Value) (y : DataW H × List MemPlace), xs[i * fs.size + j]? = some u ∧ DataW.trod enc P w base spare held m f.type [u] = some y := by
  obtain ⟨A, n, cap, rfl⟩ := okWide_slice ht hv
  obtain ⟨fuel, hf⟩ := h
  rcases open_slice ht hf with ⟨hcs, hx⟩ | ⟨a, len, cap', m, fu, D, Pl, hcs, hb, hl, hm, hmm, hx, hi⟩
  · simp [Value.cells] at hcs
    obtain ⟨rfl, rfl, rfl⟩ := hcs
    exact ⟨none, 0, 0, [], rfl, Nat.zero_le _, Rd.nil _ _ _ _, fun i hi => absurd hi (Nat.not_lt_zero i)⟩
  · simp [Value.cells] at hcs
    obtain ⟨rfl, rfl, rfl⟩ := hcs
    have hlen : n ≤ m := by rw [hmm]; split <;> omega
    have key : ∀ i, i < n → ∃ m' : Nat, ∀ (j : Nat) (f : Field), fs[j]? = some f → ∃ (u : Value) (y : DataW H × List MemPlace), w.cell? (a.add (i * fs.size + j)) = some u ∧ DataW.trod enc P w base spare held m' f.type [u] = some y := by
      intro i hin
      obtain ⟨cs', hc, ht'⟩ := hi i (by omega)
      rw [hC] at hc
      obtain ⟨ys, n', hn', hy, hlen', hyl, hf'⟩ := DataW.trod_struct he ht'
      obtain ⟨_, hcl, hat⟩ := World.cells?_some hc
      refine ⟨n', fun j f hj => ?_⟩
      obtain ⟨ho, hk⟩ := hone_of hone j f hj
      have hjl : j < fs.size := (Array.getElem?_eq_some_iff.1 hj).1
      have hcell := hat j hjl
      have hv' : cs'[j]? = some (cs'[j]'(by omega)) := List.getElem?_eq_getElem (by omega)
      have h1 := hf' j f hj
      rw [ho, hk] at h1
      have hone' : (cs'.drop j).take 1 = [cs'[j]'(by omega)] := by
        rw [List.drop_eq_getElem_cons (by omega)]
        rfl
      rw [hone'] at h1
      have hys : ys[j]? = some (ys[j]'(by omega)) := List.getElem?_eq_getElem (by omega)
      refine ⟨_, _, ?_, h1.trans hys⟩
      rw [← Go.Deep.add_add, hcell, hv']
    have each : ∀ q, q < n * fs.size → ∃ u, w.cell? (a.add q) = some u := by
      intro q hq
      have h1 : q / fs.size < n := Nat.div_lt_of_lt_mul (by rw [Nat.mul_comm]; exact hq)
      have h2 : q % fs.size < fs.size := Nat.mod_lt _ hpos
      obtain ⟨m', hm'⟩ := key (q / fs.size) h1
      obtain ⟨u, y, hu, _⟩ := hm' (q % fs.size) _ (Array.getElem?_eq_getElem h2)
      refine ⟨u, ?_⟩
      rw [← hu, Nat.mul_comm, Nat.div_add_mod]
    let F : Nat → Value := fun q => (w.cell? (a.add q)).getD undef
    have hF : ∀ q, q < n * fs.size → w.cell? (a.add q) = some (F q) := by
      intro q hq
      obtain ⟨u, hu⟩ := each q hq
      show _ = some ((w.cell? (a.add q)).getD undef)
      rw [hu]
      rfl
    refine ⟨some a, n, cap, (List.range (n * fs.size)).map F, rfl, by omega, ⟨by simp, fun hn => ?_⟩, fun i hin => ?_⟩
    · obtain ⟨b, off, rfl, hb', hcell'⟩ := plain_of_cells (n := n * fs.size) (f := F) hF (Nat.mul_pos hn hpos)
      refine ⟨b, off, rfl, hb', fun j u hu => ?_⟩
      rw [List.getElem?_map, Option.map_eq_some_iff] at hu
      obtain ⟨z, hz1, rfl⟩ := hu
      obtain ⟨hz2, hz3⟩ := List.getElem?_eq_some_iff.1 hz1
      rw [List.length_range] at hz2
      rw [List.getElem_range] at hz3
      subst hz3
      exact hcell' _ hz2
    · obtain ⟨m', hm'⟩ := key i hin
      refine ⟨m', fun j f hj => ?_⟩
      have hjl : j < fs.size := (Array.getElem?_eq_some_iff.1 hj).1
      obtain ⟨u, y, hu, hy⟩ := hm' j f hj
      have hq : i * fs.size + j < n * fs.size := by
        have : (i + 1) * fs.size ≤ n * fs.size := Nat.mul_le_mul_right _ hin
        rw [Nat.succ_mul] at this
        omega
      refine ⟨u, y, ?_, hy⟩
      rw [List.getElem?_map, List.getElem?_range hq]
      show some (F _) = _
      rw [← hF _ hq, hu]
end

section
variable {H : Type} {enc : TypeId × Value → H} {P : Program} {w : World} {base : Nat} {spare : Nat → Bool} {held : Bool}
theorem int_of {t : TypeId} {k : IntKind} {m : Nat} {u : Value} {y : DataW H × List MemPlace} (ht : P.underlying t = some (.int k)) (h : DataW.trod enc P w base spare held m t [u] = some y) : ∃ z, u = .int k z ∧ (Lit.int k z).wf = true := by
  obtain ⟨z, e, _, wz⟩ := DataW.trod_int ht h
  simp at e
  exact ⟨z, e, wz⟩
theorem bool_of {t : TypeId} {m : Nat} {u : Value} {y : DataW H × List MemPlace} (ht : P.underlying t = some .bool) (h : DataW.trod enc P w base spare held m t [u] = some y) : ∃ b, u = .bool b := by
  obtain ⟨b, e, _⟩ := DataW.trod_bool ht h
  simp at e
  exact ⟨b, e⟩
end

/-- Raw cells told as the images of plain values, element by element. -/
theorem told {α : Type} (size : Nat) (g : α → List Value) (hg : ∀ a, (g a).length = size) : ∀ (n : Nat) (xs : List Value), xs.length = n * size →
    (∀ i, i < n → ∃ a, ∀ j, j < size → xs[i * size + j]? = (g a)[j]?) → ∃ l : List α, l.length = n ∧ xs = l.flatMap g
  | 0, xs, hl, _ => ⟨[], rfl, List.eq_nil_of_length_eq_zero (by simpa using hl)⟩
  | n + 1, xs, hl, h => by
    have hl' : xs.length = n * size + size := by rw [hl, Nat.succ_mul]
    obtain ⟨l, h1, h2⟩ := told size g hg n (xs.take (n * size)) (by simp; omega) (fun i hi => by
      obtain ⟨a, ha⟩ := h i (by omega)
      refine ⟨a, fun j hj => ?_⟩
      have : (i + 1) * size ≤ n * size := Nat.mul_le_mul_right _ hi
      rw [Nat.succ_mul] at this
      rw [List.getElem?_take, if_pos (by omega)]
      exact ha j hj)
    obtain ⟨a, ha⟩ := h n (by omega)
    refine ⟨l ++ [a], by simp [h1], ?_⟩
    rw [List.flatMap_append, ← h2]
    simp only [List.flatMap_cons, List.flatMap_nil, List.append_nil]
    have e : xs.drop (n * size) = g a := by
      apply List.ext_getElem?
      intro j
      rw [List.getElem?_drop]
      by_cases hj : j < size
      · exact ha j hj
      · rw [List.getElem?_eq_none (by omega), List.getElem?_eq_none (by rw [hg]; omega)]
    rw [← e, List.take_append_drop]
theorem told_good {α : Type} (size : Nat) (g : α → List Value) (hg : ∀ a, (g a).length = size) (Q : α → Prop) : ∀ (n : Nat) (xs : List Value), xs.length = n * size →
    (∀ i, i < n → ∃ a, Q a ∧ ∀ j, j < size → xs[i * size + j]? = (g a)[j]?) → ∃ l : List α, l.length = n ∧ (∀ a ∈ l, Q a) ∧ xs = l.flatMap g := by
  intro n xs hl h
  have h' : ∀ i, i < n → ∃ a : { a : α // Q a }, ∀ j, j < size → xs[i * size + j]? = (g a.1)[j]? := fun i hi => by
    obtain ⟨a, hq, ha⟩ := h i hi
    exact ⟨⟨a, hq⟩, ha⟩
  obtain ⟨l, h1, h2⟩ := told size (fun a : { a : α // Q a } => g a.1) (fun a => hg a.1) n xs hl h'
  refine ⟨l.map (·.1), by simp [h1], fun a ha => ?_, ?_⟩
  · obtain ⟨b, _, rfl⟩ := List.mem_map.1 ha
    exact b.2
  · rw [h2, List.flatMap_map]
theorem told_at {α : Type} {size : Nat} {g : α → List Value} (hg : ∀ a, (g a).length = size) : ∀ (l : List α) (k : Nat) (a : α), l[k]? = some a → ∀ j, j < size → (l.flatMap g)[k * size + j]? = (g a)[j]?
  | [], k, a, h, _, _ => by simp at h
  | b :: l, 0, a, h, j, hj => by
    simp at h
    subst h
    simp [List.flatMap_cons, List.getElem?_append_left (show j < (g b).length by rw [hg]; exact hj)]
  | b :: l, k + 1, a, h, j, hj => by
    rw [List.flatMap_cons, List.getElem?_append_right (by rw [hg, Nat.succ_mul]; omega), hg, show (k + 1) * size + j - size = k * size + j by rw [Nat.succ_mul]; omega]
    exact told_at hg l k a (by simpa using h) j hj
theorem grown_of_below {a w : World} (h : Below a.heap.size a w) (row : Option Nat) : a.grownBy w row := ⟨h.os, h.tape, h.output, h.size, fun i hi _ => h.block i hi⟩
theorem own_below {w w' : World} {base size n : Nat} {e : TypeId} {v : Value} {xs : List Value} (h : w.ownsRow base e size v n xs) (hb : Below w.heap.size w w') : w'.ownsRow base e size v n xs :=
  h.kept (grown_of_below hb none) (by cases v.ownBlock <;> simp)

/-- Behind an append: a block that is not the row's reads as before. -/
theorem gcell {w w' : World} {v : Value} (hg : w.grownBy w' v.ownBlock) {b : Nat} (hb : b < w.heap.size) (hne : v.ownBlock ≠ some b) : (∀ o, w'.cell? ⟨b, o, none⟩ = w.cell? ⟨b, o, none⟩) ∧ (∀ o, w'.frozen? ⟨b, o, none⟩ = w.frozen? ⟨b, o, none⟩) :=
  ⟨fun _ => World.cell?_of_block (w := w) (hg.block b hb (fun e => hne e.symm)), fun _ => World.frozen?_of_block (w := w) (hg.block b hb (fun e => hne e.symm))⟩
theorem own_ne {w : World} {base size n b : Nat} {e : TypeId} {v : Value} {xs : List Value} (h : w.ownsRow base e size v n xs) (hb : b < base ∨ w.heap.size ≤ b) : v.ownBlock ≠ some b := by
  intro he
  have := h.lt b he
  omega
theorem below_grown {a w w' : World} {B base size n : Nat} {e : TypeId} {v : Value} {xs : List Value} (h : Below B a w) (hg : w.grownBy w' v.ownBlock) (hown : w.ownsRow base e size v n xs) (hB : B ≤ base) (hB2 : B ≤ w.heap.size) : Below B a w' :=
  h.grown hg hB2 (fun k hk => by have := hown.lt k hk; omega)

/-- Element k of a slice of plain values told by g: its cells. -/
theorem Rd.elem {α : Type} {w : World} {B size n : Nat} {A : Option Addr} {g : α → List Value} {l : List α} (hr : Rd w B size A n (l.flatMap g)) (hg : ∀ a, (g a).length = size) {k : Nat} (hk : k < n) {a : α} (ha : l[k]? = some a) :
    ∃ b off, A = some ⟨b, off, none⟩ ∧ b < B ∧ ∀ j u, (g a)[j]? = some u → w.cell? ⟨b, off + k * size + j, none⟩ = some u := by
  obtain ⟨b, off, e, hb, hc⟩ := hr.at_ hk
  refine ⟨b, off, e, hb, fun j u hu => ?_⟩
  have hj : j < size := by
    rw [← hg a]
    exact (List.getElem?_eq_some_iff.1 hu).1
  rw [Nat.add_assoc]
  exact hc _ _ ((told_at hg l k a ha j hj).trans hu)
theorem Rd.set_far {w : World} {B size b n c o : Nat} {xs : List Value} (h : Rd w B size (some ⟨b, 0, none⟩) n xs) (hne : c ≠ b) (x : Value) : Rd (w.setCell ⟨c, o, none⟩ x) B size (some ⟨b, 0, none⟩) n xs := by
  refine ⟨h.1, fun hn => ?_⟩
  obtain ⟨b', off, e, hB, hc⟩ := h.2 hn
  refine ⟨b', off, e, hB, fun j u hu => ?_⟩
  injection e with e
  injection e with e1 e2
  subst e1 e2
  rw [World.cell?_setCell_other _ _ _ _ (by intro e3; injection e3 with e3 _; exact hne e3)]
  exact hc j u hu
end Go.Proofs.YtbomhhkknopdpaaGreatDoor
