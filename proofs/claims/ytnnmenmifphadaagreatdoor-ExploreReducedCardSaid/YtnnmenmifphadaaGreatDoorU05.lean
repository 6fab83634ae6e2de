/- Small facts on worlds, slices that can be read, and the arguments of a law; no program is named here. -/
import Derived.Test.YtnnmenmifphadaaGreatDoorU00
import Derived.WalkKit
import Derived.ProofKit
import Derived.OpenShut
import Derived.Deep.Fields
import Derived.Deep.Draws
set_option linter.unusedSimpArgs false
set_option linter.unusedVariables false
namespace Go.Proofs.YtnnmenmifphadaaGreatDoor
open Go.ChangeShapes Go.WideShapes Go.ChangeAt Go.RowKit Go.Deep
theorem bcell {W w1 : World} (hb : Below W.heap.size W w1) : (∀ b o, b < W.heap.size → w1.cell? ⟨b, o, none⟩ = W.cell? ⟨b, o, none⟩) ∧ (∀ b o, b < W.heap.size → w1.frozen? ⟨b, o, none⟩ = W.frozen? ⟨b, o, none⟩) :=
 ⟨fun b o h => hb.cell (p := ⟨b, o, none⟩) h, fun b o h => hb.frozen (p := ⟨b, o, none⟩) h⟩
theorem bcellB {B : Nat} {W w1 : World} (hb : Below B W w1) : (∀ b o, b < B → w1.cell? ⟨b, o, none⟩ = W.cell? ⟨b, o, none⟩) ∧ (∀ b o, b < B → w1.frozen? ⟨b, o, none⟩ = W.frozen? ⟨b, o, none⟩) :=
 ⟨fun b o h => hb.cell (p := ⟨b, o, none⟩) h, fun b o h => hb.frozen (p := ⟨b, o, none⟩) h⟩
theorem below_drewN {B : Nat} {a w : World} (h : Below B a w) (n : Nat) : Below B a (w.drewN n) := ⟨h.os, h.tape, h.output, h.size, h.block⟩
theorem hide {p : Prop} (h : p) : Hid p := h
theorem cell_lt {w : World} {a : Addr} {v : Value} (h : w.cell? a = some v) : a.block < w.heap.size := by
 rcases Nat.lt_or_ge a.block w.heap.size with hl | hg
 ·exact hl
 ·exfalso
  unfold World.cell? at h
  rw [Array.getElem?_eq_none hg] at h
  simp at h
def Rd (w : World) (B size : Nat) (A : Option Addr) (n : Nat) (xs : List Value) : Prop :=
 xs.length = n * size ∧ (0 < n → ∃ b off, A = some ⟨b, off, none⟩ ∧ b < B ∧ ∀ j u, xs[j]? = some u → w.cell? ⟨b, off + j, none⟩ = some u)
section
variable {w w' : World} {B B' size : Nat} {A : Option Addr} {n : Nat} {xs : List Value}
theorem Rd.nil (w : World) (B size : Nat) (A : Option Addr) : Rd w B size A 0 [] := ⟨by simp, fun h => absurd h (Nat.lt_irrefl 0)⟩
theorem Rd.below (h : Rd w B size A n xs) (hb : Below B w w') : Rd w' B size A n xs :=
 ⟨h.1, fun hn => by
  obtain ⟨b, off, e, hB, hc⟩ := h.2 hn
  exact ⟨b, off, e, hB, fun j u hu => (hb.cell (p := ⟨b, off + j, none⟩) hB).trans (hc j u hu)⟩⟩
theorem Rd.more (h : Rd w B size A n xs) (hB : B ≤ B') : Rd w B' size A n xs :=
 ⟨h.1, fun hn => by
  obtain ⟨b, off, e, h1, hc⟩ := h.2 hn
  exact ⟨b, off, e, Nat.lt_of_lt_of_le h1 hB, hc⟩⟩
theorem Rd.at_ (h : Rd w B size A n xs) {k : Nat} (hk : k < n) : ∃ b off, A = some ⟨b, off, none⟩ ∧ b < B ∧ ∀ j u, xs[j]? = some u → w.cell? ⟨b, off + j, none⟩ = some u := h.2 (by omega)
theorem Rd.of_own {base : Nat} {e : TypeId} {v : Value} (h : w.ownsRow base e size v n xs) : ∃ A cap, v = .slice A n cap ∧ Rd w w.heap.size size A n xs := by
 have hc := @World.ownsRow.cells _ _ _ _ _ _ _ h
 have hlt := h.lt
 obtain ⟨h1, h2⟩ := h
 rcases h2 with ⟨rfl, rfl⟩ | ⟨g, cap, cur, rfl, hg, hh, _⟩
 ·obtain rfl : xs = [] := List.eq_nil_of_length_eq_zero (by simpa using h1)
  exact ⟨none, 0, rfl, Rd.nil _ _ _ _⟩
 ·refine ⟨_, cap, rfl, h1, fun hn => ⟨g, 0, rfl, (hlt g rfl).2, fun j u hu => ?_⟩⟩
  have := hc (g := g) rfl j u hu
  rw [Go.WideShapes.add_plain] at this
  simpa using this
end
section
variable {H : Type} {enc : TypeId × Value → H} {P : Program} {w : World} {base : Nat} {spare : Nat → Bool} {held : Bool}
theorem plain_of_cells {w : World} {a : Addr} {n : Nat} {f : Nat → Value} (h : ∀ i, i < n → w.cell? (a.add i) = some (f i)) (hp : 0 < n) : ∃ b off, a = ⟨b, off, none⟩ ∧ b < w.heap.size ∧ ∀ j, j < n → w.cell? ⟨b, off + j, none⟩ = some (f j) := by
 obtain ⟨b, off, spot⟩ := a
 have hspot : spot = none := by simpa [Addr.add] using World.cell?_spot (h 0 hp)
 subst hspot
 have h0 := h 0 hp
 rw [Go.WideShapes.add_plain] at h0
 exact ⟨b, off, rfl, cell_lt h0, fun j hj => by rw [← Go.WideShapes.add_plain]; exact h j hj⟩
end
section
variable {H : Type} {enc : TypeId × Value → H} {P : Program} {w : World} {base : Nat} {spare : Nat → Bool} {held : Bool}
theorem int_of {t : TypeId} {k : IntKind} {m : Nat} {u : Value} {y : DataW H × List MemPlace} (ht : P.underlying t = some (.int k)) (h : DataW.trod enc P w base spare held m t [u] = some y) : ∃ z, u = .int k z ∧ (Lit.int k z).wf = true := by
 obtain ⟨z, e, _, wz⟩ := DataW.trod_int ht h
 simp at e
 exact ⟨z, e, wz⟩
end
theorem told {α : Type} (size : Nat) (g : α → List Value) (hg : ∀ a, (g a).length = size) : ∀ (n : Nat) (xs : List Value), xs.length = n * size →
  (∀ i, i < n → ∃ a, ∀ j, j < size → xs[i * size + j]? = (g a)[j]?) → ∃ l : List α, l.length = n ∧ xs = l.flatMap g
 | 0, xs, hl, _ => ⟨[], rfl, List.eq_nil_of_length_eq_zero (by simpa using hl)⟩
 | n + 1, xs, hl, h => by
  have hl' : xs.length = n * size + size := by rw [hl, Nat.succ_mul]
  obtain ⟨l, h1, h2⟩ := told size g hg n (xs.take (n * size)) (by simp; omega) (fun i hi => by
   obtain ⟨a, ha⟩ := h i (by omega)
   refine ⟨a, fun j hj => ?_⟩
   have : (i + 1) * size ≤ n * size := Nat.mul_le_mul_right _ hi
   rw [Nat.succ_mul] at this
   rw [List.getElem?_take, if_pos (by omega)]
   exact ha j hj)
  obtain ⟨a, ha⟩ := h n (by omega)
  refine ⟨l ++ [a], by simp [h1], ?_⟩
  rw [List.flatMap_append, ← h2]
  simp only [List.flatMap_cons, List.flatMap_nil, List.append_nil]
  have e : xs.drop (n * size) = g a := by
   apply List.ext_getElem?
   intro j
   rw [List.getElem?_drop]
   by_cases hj : j < size
   ·exact ha j hj
   ·rw [List.getElem?_eq_none (by omega), List.getElem?_eq_none (by rw [hg]; omega)]
  rw [← e, List.take_append_drop]
theorem told_good {α : Type} (size : Nat) (g : α → List Value) (hg : ∀ a, (g a).length = size) (Q : α → Prop) : ∀ (n : Nat) (xs : List Value), xs.length = n * size →
  (∀ i, i < n → ∃ a, Q a ∧ ∀ j, j < size → xs[i * size + j]? = (g a)[j]?) → ∃ l : List α, l.length = n ∧ (∀ a ∈ l, Q a) ∧ xs = l.flatMap g := by
 intro n xs hl h
 have h' : ∀ i, i < n → ∃ a : { a : α // Q a }, ∀ j, j < size → xs[i * size + j]? = (g a.1)[j]? := fun i hi => by
  obtain ⟨a, hq, ha⟩ := h i hi
  exact ⟨⟨a, hq⟩, ha⟩
 obtain ⟨l, h1, h2⟩ := told size (fun a : { a : α // Q a } => g a.1) (fun a => hg a.1) n xs hl h'
 refine ⟨l.map (·.1), by simp [h1], fun a ha => ?_, ?_⟩
 ·obtain ⟨b, _, rfl⟩ := List.mem_map.1 ha
  exact b.2
 ·rw [h2, List.flatMap_map]
theorem told_at {α : Type} {size : Nat} {g : α → List Value} (hg : ∀ a, (g a).length = size) : ∀ (l : List α) (k : Nat) (a : α), l[k]? = some a → ∀ j, j < size → (l.flatMap g)[k * size + j]? = (g a)[j]?
 | [], k, a, h, _, _ => by simp at h
 | b :: l, 0, a, h, j, hj => by
  simp at h
  subst h
  simp [List.flatMap_cons, List.getElem?_append_left (show j < (g b).length by rw [hg]; exact hj)]
 | b :: l, k + 1, a, h, j, hj => by
  rw [List.flatMap_cons, List.getElem?_append_right (by rw [hg, Nat.succ_mul]; omega), hg, show (k + 1) * size + j - size = k * size + j by rw [Nat.succ_mul]; omega]
  exact told_at hg l k a (by simpa using h) j hj
theorem grown_of_below {a w : World} (h : Below a.heap.size a w) (row : Option Nat) : a.grownBy w row := ⟨h.os, h.tape, h.output, h.size, fun i hi _ => h.block i hi⟩
theorem own_below {w w' : World} {base size n : Nat} {e : TypeId} {v : Value} {xs : List Value} (h : w.ownsRow base e size v n xs) (hb : Below w.heap.size w w') : w'.ownsRow base e size v n xs :=
 h.kept (grown_of_below hb none) (by cases v.ownBlock <;> simp)
theorem own_ne {w : World} {base size n b : Nat} {e : TypeId} {v : Value} {xs : List Value} (h : w.ownsRow base e size v n xs) (hb : b < base ∨ w.heap.size ≤ b) : v.ownBlock ≠ some b := by
 intro he
 have := h.lt b he
 omega
theorem below_grown {a w w' : World} {B base size n : Nat} {e : TypeId} {v : Value} {xs : List Value} (h : Below B a w) (hg : w.grownBy w' v.ownBlock) (hown : w.ownsRow base e size v n xs) (hB : B ≤ base) (hB2 : B ≤ w.heap.size) : Below B a w' :=
 h.grown hg hB2 (fun k hk => by have := hown.lt k hk; omega)
theorem Rd.elem {α : Type} {w : World} {B size n : Nat} {A : Option Addr} {g : α → List Value} {l : List α} (hr : Rd w B size A n (l.flatMap g)) (hg : ∀ a, (g a).length = size) {k : Nat} (hk : k < n) {a : α} (ha : l[k]? = some a) :
  ∃ b off, A = some ⟨b, off, none⟩ ∧ b < B ∧ ∀ j u, (g a)[j]? = some u → w.cell? ⟨b, off + k * size + j, none⟩ = some u := by
 obtain ⟨b, off, e, hb, hc⟩ := hr.at_ hk
 refine ⟨b, off, e, hb, fun j u hu => ?_⟩
 have hj : j < size := by
  rw [← hg a]
  exact (List.getElem?_eq_some_iff.1 hu).1
 rw [Nat.add_assoc]
 exact hc _ _ ((told_at hg l k a ha j hj).trans hu)
theorem Rd.set_far {w : World} {B size b n c o : Nat} {xs : List Value} (h : Rd w B size (some ⟨b, 0, none⟩) n xs) (hne : c ≠ b) (x : Value) : Rd (w.setCell ⟨c, o, none⟩ x) B size (some ⟨b, 0, none⟩) n xs := by
 refine ⟨h.1, fun hn => ?_⟩
 obtain ⟨b', off, e, hB, hc⟩ := h.2 hn
 refine ⟨b', off, e, hB, fun j u hu => ?_⟩
 injection e with e
 injection e with e1 e2
 subst e1 e2
 rw [World.cell?_setCell_other _ _ _ _ (by intro e3; injection e3 with e3 _; exact hne e3)]
 exact hc j u hu
theorem noDrew {w w' : World} (h : Below w.drew.heap.size w.drew w') : Below w.heap.size w w' := (Below.refl _ _).drew.trans h
abbrev Ret (v : Value) (W : World) (e : Ending) (w' : World) : Prop := e = .returned v ∧ Below W.heap.size W w'
theorem oM {p : Prop} (h : p := by omega) : p := h
theorem sM {p : Prop} (h : p := by simp) : p := h
theorem kR {p : Prop} (h : p := by kernel_rfl) : p := h
theorem aM {p : Prop} (h : p := by assumption) : p := h
theorem dM {p : Prop} (h : p := by decide) : p := h
theorem tk {P : Program} {md : Region.Mode} {ops : Array Oper} {Q : Exit → Act → World → Prop} {S : World → Prop} (i : Nat) (oi : Oper) {v : Value} {fuel : Nat} {listed : Array Bool} {a : Act} {w : World} (hy : ∀ w, S w → (execOp a.eval oi).run P w = .ok (.value v) w) (h : wpAnyH P md ops Q S fuel (listed.setIfInBounds i true) (a.put oi.dst v) w) (hw : Region.wanted oi (yielded ops a.tmps) = true := by rfl) (hi : ops[i]? = some oi := by rfl) (hs : Region.noSelect ops = true := by kernel_rfl) (hf : Region.free md ops listed i = true := by kernel_rfl) (hr : (Region.ready md ops listed).contains i = true := by kernel_rfl) (hQ : ∀ c a w, Q (.panic c) (a.put oi.dst v) w → Q (.panic c) a w := by exact fun _ _ _ h => h) (hS : S w := by assumption) : wpAnyH P md ops Q S (fuel + 1) listed a w := wpAnyH_take hi hs hf hr hQ (.inl ⟨hw, hy⟩) hS h
theorem pS.{u} : (∀ {α : Type u} (l : List α) (i : Nat) (a : α), l.toArray.setIfInBounds i a = (l.set i a).toArray) ∧ (∀ {α : Type u} (x : α) (xs : List α) (a : α), (x :: xs).set 0 a = a :: xs) ∧ (∀ {α : Type u} (x : α) (xs : List α) (i : Nat) (a : α), (x :: xs).set (i + 1) a = x :: xs.set i a) := ⟨fun _ _ _ => by simp, fun _ _ _ => rfl, fun _ _ _ _ => rfl⟩
theorem wR {P : Program} {md : Region.Mode} {ops : Array Oper} {Q : Exit → Act → World → Prop} {S : World → Prop} {rs : List Nat} {fuel : Nat} {listed : Array Bool} {a : Act} {w : World} (h : AllReadyH P md ops Q S fuel listed a w rs) (hr : Region.ready md ops listed = rs := by kernel_rfl) (hne : rs ≠ [] := by simp) : wpAnyH P md ops Q S (fuel + 1) listed a w := wpAnyH_ready hr hne h
theorem aR {P : Program} {md : Region.Mode} {ops : Array Oper} {Q : Exit → Act → World → Prop} {S : World → Prop} {fuel : Nat} {listed : Array Bool} {a : Act} {w : World} {i : Nat} {rs : List Nat} (o : Oper) (h : ∀ K : Act → World → Prop, Shut (∀ a w, S w → (S w → wpAnyH P md ops Q S fuel (listed.setIfInBounds i true) a w) → K a w) → if Region.wanted o (yielded ops a.tmps) = true then Oper.wp P o a w K Q else K (a.put o.dst undef) w) (hs : AllReadyH P md ops Q S fuel listed a w rs) (ho : ops[i]? = some o := by rfl) : AllReadyH P md ops Q S fuel listed a w (i :: rs) := AllReadyH.cons ho h hs
theorem nR {P : Program} {md : Region.Mode} {ops : Array Oper} {Q : Exit → Act → World → Prop} {S : World → Prop} {fuel : Nat} {listed : Array Bool} {a : Act} {w : World} : AllReadyH P md ops Q S fuel listed a w [] := AllReadyH.nil
theorem bC {W w1 : World} (h : Below W.heap.size W w1) : (∀ b o, b < W.heap.size → w1.cell? ⟨b, o, none⟩ = W.cell? ⟨b, o, none⟩) ∧ (∀ b o, b < W.heap.size → w1.frozen? ⟨b, o, none⟩ = W.frozen? ⟨b, o, none⟩) ∧ W.heap.size ≤ w1.heap.size := ⟨(bcell h).1, (bcell h).2, h.size⟩
theorem tf0 {p : Prop} (h : p := by (try dsimp only at hSw); have kS0 := hSw.c0; have kS1 := hSw.c1; have kS2 := hSw.c2; have kSl := hSw.len; go_simp; (try with_reducible rfl); done) : p := h
theorem tf1 {p : Prop} (h : p := by (try dsimp only at hSw); go_simp; (try with_reducible rfl); done) : p := h
theorem tf2 {p : Prop} (h : p := by (try dsimp only at hSw); have kS0 := hSw.1.1 0 _ rfl; have kS1 := hSw.1.1 1 _ rfl; have kSc := hSw.2.1.1; go_simp; (try with_reducible rfl); done) : p := h
theorem tf3 {p : Prop} (h : p := by (try dsimp only at hSw); have kS0 := hSw.1.1 0 _ rfl; have kS1 := hSw.1.1 1 _ rfl; have kS2 := hSw.1.1 2 _ rfl; have kS3 := hSw.1.1 3 _ rfl; have kS4 := hSw.1.1 4 _ rfl; have kS5 := hSw.1.1 5 _ rfl; have kS6 := hSw.1.1 6 _ rfl; have kSc := hSw.2.1.1; go_simp; (try with_reducible rfl); done) : p := h
theorem tf4 {p : Prop} (h : p := by (try dsimp only at hSw); have kS0 := hSw.1.1.1 0 _ rfl; have kS1 := hSw.1.1.1 1 _ rfl; have kS2 := hSw.1.1.1 2 _ rfl; have kS3 := hSw.1.1.1 3 _ rfl; have kS4 := hSw.1.1.1 4 _ rfl; have kS5 := hSw.1.1.1 5 _ rfl; have kS6 := hSw.1.1.1 6 _ rfl; have kSc := hSw.1.2.1.1; have kSd := hSw.2.1; go_simp; (try with_reducible rfl); done) : p := h
theorem tf5 {p : Prop} (h : p := by (try dsimp only at hSw); have kS0 := hSw.c0; have kS1 := hSw.c1; have kSl := hSw.len; go_simp; (try with_reducible rfl); done) : p := h
theorem tf6 {p : Prop} (h : p := by (try dsimp only at hSw); have kS2 := rk _ hSw; have kB0 := rb0 _ hSw; have kB1 := rb1 _ hSw; have kB2 := rb2 _ hSw; have kB3 := rb3 _ hSw; have kB4 := rb4 _ hSw; have kB5 := rb5 _ hSw; have kB6 := rb6 _ hSw; have kB7 := rb7 _ hSw; have kB8 := rb8 _ hSw; go_simp; (try with_reducible rfl); done) : p := h
theorem tf7 {p : Prop} (h : p := by (try dsimp only at hSw); have kS1 := hSw; go_simp; (try with_reducible rfl); done) : p := h
theorem tf8 {p : Prop} (h : p := by (try dsimp only at hSw); have kS0 := hSw.c0; have kS1 := hSw.c1; have kSl := hSw.s.o.len Tryz.underlying134; go_simp; (try with_reducible rfl); done) : p := h
theorem tf9 {p : Prop} (h : p := by (try dsimp only at hSw); have kS2 := hSw.1; obtain ⟨kB0, kB1, kB2, kB3, kB4, kB5, kB6, kB7, kB8, _⟩ := box9 hSw.2; go_simp; (try with_reducible rfl); done) : p := h
theorem tf10 {p : Prop} (h : p := by (try dsimp only at hSw); obtain ⟨kB0, kB1, kB2, kB3, kB4, kB5, kB6, kB7, kB8, _⟩ := box9 hSw.1; have kb0 := hSw.2.at (j := 0) rfl; have kb1 := hSw.2.at (j := 1) rfl; go_simp; (try with_reducible rfl); done) : p := h
theorem tf11 {p : Prop} (h : p := by (try dsimp only at hSw); have kS0 := hSw.c0; have kS1 := hSw.c1; have kS2 := hSw.c2; have kSl := hSw.s.o.len Tryz.underlying134; go_simp; (try with_reducible rfl); done) : p := h
theorem tq0 {P : Program} {md : Region.Mode} {ops : Array Oper} {Q : Exit → Act → World → Prop} {S : World → Prop} (i : Nat) {oi : Oper} {v : Value} {fuel : Nat} {listed : Array Bool} {a : Act} {w : World} {a1 : Act} {l1 : Array Bool} (h : wpAnyH P md ops Q S fuel l1 a1 w) (hi : ops.toList[i]? = some oi := by exact rfl) (hy : ∀ w, S w → (execOp a.eval oi).run P w = .ok (.value v) w := by intro _ hSw; exact tf0) (e : a.put oi.dst v = a1 := by (try simp only [Act.put, pS]); exact rfl) (el : listed.setIfInBounds i true = l1 := by (try simp only [pS]); exact rfl) (hw : Region.wanted oi (yielded ops a.tmps) = true := by rfl) (hs : Region.noSelect ops = true := by kernel_rfl) (hf : Region.free md ops listed i = true := by kernel_rfl) (hr : (Region.ready md ops listed).contains i = true := by kernel_rfl) (hQ : ∀ c a w, Q (.panic c) (a.put oi.dst v) w → Q (.panic c) a w := by exact fun _ _ _ h => h) (hS : S w := by assumption) : wpAnyH P md ops Q S (fuel + 1) listed a w := tk i oi hy (e ▸ el ▸ h) hw (by rw [← hi]; simp) hs hf hr hQ hS
theorem tq1 {P : Program} {md : Region.Mode} {ops : Array Oper} {Q : Exit → Act → World → Prop} {S : World → Prop} (i : Nat) {oi : Oper} {v : Value} {fuel : Nat} {listed : Array Bool} {a : Act} {w : World} {a1 : Act} {l1 : Array Bool} (h : wpAnyH P md ops Q S fuel l1 a1 w) (hi : ops.toList[i]? = some oi := by exact rfl) (hy : ∀ w, S w → (execOp a.eval oi).run P w = .ok (.value v) w := by intro _ hSw; exact tf1) (e : a.put oi.dst v = a1 := by (try simp only [Act.put, pS]); exact rfl) (el : listed.setIfInBounds i true = l1 := by (try simp only [pS]); exact rfl) (hw : Region.wanted oi (yielded ops a.tmps) = true := by rfl) (hs : Region.noSelect ops = true := by kernel_rfl) (hf : Region.free md ops listed i = true := by kernel_rfl) (hr : (Region.ready md ops listed).contains i = true := by kernel_rfl) (hQ : ∀ c a w, Q (.panic c) (a.put oi.dst v) w → Q (.panic c) a w := by exact fun _ _ _ h => h) (hS : S w := by assumption) : wpAnyH P md ops Q S (fuel + 1) listed a w := tk i oi hy (e ▸ el ▸ h) hw (by rw [← hi]; simp) hs hf hr hQ hS
theorem tq2 {P : Program} {md : Region.Mode} {ops : Array Oper} {Q : Exit → Act → World → Prop} {S : World → Prop} (i : Nat) {oi : Oper} {v : Value} {fuel : Nat} {listed : Array Bool} {a : Act} {w : World} {a1 : Act} {l1 : Array Bool} (h : wpAnyH P md ops Q S fuel l1 a1 w) (hi : ops.toList[i]? = some oi := by exact rfl) (hy : ∀ w, S w → (execOp a.eval oi).run P w = .ok (.value v) w := by intro _ hSw; exact tf2) (e : a.put oi.dst v = a1 := by (try simp only [Act.put, pS]); exact rfl) (el : listed.setIfInBounds i true = l1 := by (try simp only [pS]); exact rfl) (hw : Region.wanted oi (yielded ops a.tmps) = true := by rfl) (hs : Region.noSelect ops = true := by kernel_rfl) (hf : Region.free md ops listed i = true := by kernel_rfl) (hr : (Region.ready md ops listed).contains i = true := by kernel_rfl) (hQ : ∀ c a w, Q (.panic c) (a.put oi.dst v) w → Q (.panic c) a w := by exact fun _ _ _ h => h) (hS : S w := by assumption) : wpAnyH P md ops Q S (fuel + 1) listed a w := tk i oi hy (e ▸ el ▸ h) hw (by rw [← hi]; simp) hs hf hr hQ hS
theorem tq3 {P : Program} {md : Region.Mode} {ops : Array Oper} {Q : Exit → Act → World → Prop} {S : World → Prop} (i : Nat) {oi : Oper} {v : Value} {fuel : Nat} {listed : Array Bool} {a : Act} {w : World} {a1 : Act} {l1 : Array Bool} (h : wpAnyH P md ops Q S fuel l1 a1 w) (hi : ops.toList[i]? = some oi := by exact rfl) (hy : ∀ w, S w → (execOp a.eval oi).run P w = .ok (.value v) w := by intro _ hSw; exact tf3) (e : a.put oi.dst v = a1 := by (try simp only [Act.put, pS]); exact rfl) (el : listed.setIfInBounds i true = l1 := by (try simp only [pS]); exact rfl) (hw : Region.wanted oi (yielded ops a.tmps) = true := by rfl) (hs : Region.noSelect ops = true := by kernel_rfl) (hf : Region.free md ops listed i = true := by kernel_rfl) (hr : (Region.ready md ops listed).contains i = true := by kernel_rfl) (hQ : ∀ c a w, Q (.panic c) (a.put oi.dst v) w → Q (.panic c) a w := by exact fun _ _ _ h => h) (hS : S w := by assumption) : wpAnyH P md ops Q S (fuel + 1) listed a w := tk i oi hy (e ▸ el ▸ h) hw (by rw [← hi]; simp) hs hf hr hQ hS
theorem tq4 {P : Program} {md : Region.Mode} {ops : Array Oper} {Q : Exit → Act → World → Prop} {S : World → Prop} (i : Nat) {oi : Oper} {v : Value} {fuel : Nat} {listed : Array Bool} {a : Act} {w : World} {a1 : Act} {l1 : Array Bool} (h : wpAnyH P md ops Q S fuel l1 a1 w) (hi : ops.toList[i]? = some oi := by exact rfl) (hy : ∀ w, S w → (execOp a.eval oi).run P w = .ok (.value v) w := by intro _ hSw; exact tf4) (e : a.put oi.dst v = a1 := by (try simp only [Act.put, pS]); exact rfl) (el : listed.setIfInBounds i true = l1 := by (try simp only [pS]); exact rfl) (hw : Region.wanted oi (yielded ops a.tmps) = true := by rfl) (hs : Region.noSelect ops = true := by kernel_rfl) (hf : Region.free md ops listed i = true := by kernel_rfl) (hr : (Region.ready md ops listed).contains i = true := by kernel_rfl) (hQ : ∀ c a w, Q (.panic c) (a.put oi.dst v) w → Q (.panic c) a w := by exact fun _ _ _ h => h) (hS : S w := by assumption) : wpAnyH P md ops Q S (fuel + 1) listed a w := tk i oi hy (e ▸ el ▸ h) hw (by rw [← hi]; simp) hs hf hr hQ hS
theorem tq5 {P : Program} {md : Region.Mode} {ops : Array Oper} {Q : Exit → Act → World → Prop} {S : World → Prop} (i : Nat) {oi : Oper} {v : Value} {fuel : Nat} {listed : Array Bool} {a : Act} {w : World} {a1 : Act} {l1 : Array Bool} (h : wpAnyH P md ops Q S fuel l1 a1 w) (hi : ops.toList[i]? = some oi := by exact rfl) (hy : ∀ w, S w → (execOp a.eval oi).run P w = .ok (.value v) w := by intro _ hSw; exact tf5) (e : a.put oi.dst v = a1 := by (try simp only [Act.put, pS]); exact rfl) (el : listed.setIfInBounds i true = l1 := by (try simp only [pS]); exact rfl) (hw : Region.wanted oi (yielded ops a.tmps) = true := by rfl) (hs : Region.noSelect ops = true := by kernel_rfl) (hf : Region.free md ops listed i = true := by kernel_rfl) (hr : (Region.ready md ops listed).contains i = true := by kernel_rfl) (hQ : ∀ c a w, Q (.panic c) (a.put oi.dst v) w → Q (.panic c) a w := by exact fun _ _ _ h => h) (hS : S w := by assumption) : wpAnyH P md ops Q S (fuel + 1) listed a w := tk i oi hy (e ▸ el ▸ h) hw (by rw [← hi]; simp) hs hf hr hQ hS
theorem tq6 {P : Program} {md : Region.Mode} {ops : Array Oper} {Q : Exit → Act → World → Prop} {S : World → Prop} (i : Nat) {oi : Oper} {v : Value} {fuel : Nat} {listed : Array Bool} {a : Act} {w : World} {a1 : Act} {l1 : Array Bool} (h : wpAnyH P md ops Q S fuel l1 a1 w) (hi : ops.toList[i]? = some oi := by exact rfl) (hy : ∀ w, S w → (execOp a.eval oi).run P w = .ok (.value v) w := by intro _ hSw; exact tf6) (e : a.put oi.dst v = a1 := by (try simp only [Act.put, pS]); exact rfl) (el : listed.setIfInBounds i true = l1 := by (try simp only [pS]); exact rfl) (hw : Region.wanted oi (yielded ops a.tmps) = true := by rfl) (hs : Region.noSelect ops = true := by kernel_rfl) (hf : Region.free md ops listed i = true := by kernel_rfl) (hr : (Region.ready md ops listed).contains i = true := by kernel_rfl) (hQ : ∀ c a w, Q (.panic c) (a.put oi.dst v) w → Q (.panic c) a w := by exact fun _ _ _ h => h) (hS : S w := by assumption) : wpAnyH P md ops Q S (fuel + 1) listed a w := tk i oi hy (e ▸ el ▸ h) hw (by rw [← hi]; simp) hs hf hr hQ hS
theorem tq7 {P : Program} {md : Region.Mode} {ops : Array Oper} {Q : Exit → Act → World → Prop} {S : World → Prop} (i : Nat) {oi : Oper} {v : Value} {fuel : Nat} {listed : Array Bool} {a : Act} {w : World} {a1 : Act} {l1 : Array Bool} (h : wpAnyH P md ops Q S fuel l1 a1 w) (hi : ops.toList[i]? = some oi := by exact rfl) (hy : ∀ w, S w → (execOp a.eval oi).run P w = .ok (.value v) w := by intro _ hSw; exact tf7) (e : a.put oi.dst v = a1 := by (try simp only [Act.put, pS]); exact rfl) (el : listed.setIfInBounds i true = l1 := by (try simp only [pS]); exact rfl) (hw : Region.wanted oi (yielded ops a.tmps) = true := by rfl) (hs : Region.noSelect ops = true := by kernel_rfl) (hf : Region.free md ops listed i = true := by kernel_rfl) (hr : (Region.ready md ops listed).contains i = true := by kernel_rfl) (hQ : ∀ c a w, Q (.panic c) (a.put oi.dst v) w → Q (.panic c) a w := by exact fun _ _ _ h => h) (hS : S w := by assumption) : wpAnyH P md ops Q S (fuel + 1) listed a w := tk i oi hy (e ▸ el ▸ h) hw (by rw [← hi]; simp) hs hf hr hQ hS
theorem tq8 {P : Program} {md : Region.Mode} {ops : Array Oper} {Q : Exit → Act → World → Prop} {S : World → Prop} (i : Nat) {oi : Oper} {v : Value} {fuel : Nat} {listed : Array Bool} {a : Act} {w : World} {a1 : Act} {l1 : Array Bool} (h : wpAnyH P md ops Q S fuel l1 a1 w) (hi : ops.toList[i]? = some oi := by exact rfl) (hy : ∀ w, S w → (execOp a.eval oi).run P w = .ok (.value v) w := by intro _ hSw; exact tf8) (e : a.put oi.dst v = a1 := by (try simp only [Act.put, pS]); exact rfl) (el : listed.setIfInBounds i true = l1 := by (try simp only [pS]); exact rfl) (hw : Region.wanted oi (yielded ops a.tmps) = true := by rfl) (hs : Region.noSelect ops = true := by kernel_rfl) (hf : Region.free md ops listed i = true := by kernel_rfl) (hr : (Region.ready md ops listed).contains i = true := by kernel_rfl) (hQ : ∀ c a w, Q (.panic c) (a.put oi.dst v) w → Q (.panic c) a w := by exact fun _ _ _ h => h) (hS : S w := by assumption) : wpAnyH P md ops Q S (fuel + 1) listed a w := tk i oi hy (e ▸ el ▸ h) hw (by rw [← hi]; simp) hs hf hr hQ hS
theorem tq9 {P : Program} {md : Region.Mode} {ops : Array Oper} {Q : Exit → Act → World → Prop} {S : World → Prop} (i : Nat) {oi : Oper} {v : Value} {fuel : Nat} {listed : Array Bool} {a : Act} {w : World} {a1 : Act} {l1 : Array Bool} (h : wpAnyH P md ops Q S fuel l1 a1 w) (hi : ops.toList[i]? = some oi := by exact rfl) (hy : ∀ w, S w → (execOp a.eval oi).run P w = .ok (.value v) w := by intro _ hSw; exact tf9) (e : a.put oi.dst v = a1 := by (try simp only [Act.put, pS]); exact rfl) (el : listed.setIfInBounds i true = l1 := by (try simp only [pS]); exact rfl) (hw : Region.wanted oi (yielded ops a.tmps) = true := by rfl) (hs : Region.noSelect ops = true := by kernel_rfl) (hf : Region.free md ops listed i = true := by kernel_rfl) (hr : (Region.ready md ops listed).contains i = true := by kernel_rfl) (hQ : ∀ c a w, Q (.panic c) (a.put oi.dst v) w → Q (.panic c) a w := by exact fun _ _ _ h => h) (hS : S w := by assumption) : wpAnyH P md ops Q S (fuel + 1) listed a w := tk i oi hy (e ▸ el ▸ h) hw (by rw [← hi]; simp) hs hf hr hQ hS
theorem tq10 {P : Program} {md : Region.Mode} {ops : Array Oper} {Q : Exit → Act → World → Prop} {S : World → Prop} (i : Nat) {oi : Oper} {v : Value} {fuel : Nat} {listed : Array Bool} {a : Act} {w : World} {a1 : Act} {l1 : Array Bool} (h : wpAnyH P md ops Q S fuel l1 a1 w) (hi : ops.toList[i]? = some oi := by exact rfl) (hy : ∀ w, S w → (execOp a.eval oi).run P w = .ok (.value v) w := by intro _ hSw; exact tf10) (e : a.put oi.dst v = a1 := by (try simp only [Act.put, pS]); exact rfl) (el : listed.setIfInBounds i true = l1 := by (try simp only [pS]); exact rfl) (hw : Region.wanted oi (yielded ops a.tmps) = true := by rfl) (hs : Region.noSelect ops = true := by kernel_rfl) (hf : Region.free md ops listed i = true := by kernel_rfl) (hr : (Region.ready md ops listed).contains i = true := by kernel_rfl) (hQ : ∀ c a w, Q (.panic c) (a.put oi.dst v) w → Q (.panic c) a w := by exact fun _ _ _ h => h) (hS : S w := by assumption) : wpAnyH P md ops Q S (fuel + 1) listed a w := tk i oi hy (e ▸ el ▸ h) hw (by rw [← hi]; simp) hs hf hr hQ hS
theorem tq11 {P : Program} {md : Region.Mode} {ops : Array Oper} {Q : Exit → Act → World → Prop} {S : World → Prop} (i : Nat) {oi : Oper} {v : Value} {fuel : Nat} {listed : Array Bool} {a : Act} {w : World} {a1 : Act} {l1 : Array Bool} (h : wpAnyH P md ops Q S fuel l1 a1 w) (hi : ops.toList[i]? = some oi := by exact rfl) (hy : ∀ w, S w → (execOp a.eval oi).run P w = .ok (.value v) w := by intro _ hSw; exact tf11) (e : a.put oi.dst v = a1 := by (try simp only [Act.put, pS]); exact rfl) (el : listed.setIfInBounds i true = l1 := by (try simp only [pS]); exact rfl) (hw : Region.wanted oi (yielded ops a.tmps) = true := by rfl) (hs : Region.noSelect ops = true := by kernel_rfl) (hf : Region.free md ops listed i = true := by kernel_rfl) (hr : (Region.ready md ops listed).contains i = true := by kernel_rfl) (hQ : ∀ c a w, Q (.panic c) (a.put oi.dst v) w → Q (.panic c) a w := by exact fun _ _ _ h => h) (hS : S w := by assumption) : wpAnyH P md ops Q S (fuel + 1) listed a w := tk i oi hy (e ▸ el ▸ h) hw (by rw [← hi]; simp) hs hf hr hQ hS
theorem aI {P : Program} {md : Region.Mode} {ops : Array Oper} {Q : Exit → Act → World → Prop} {S : World → Prop} {fuel : Nat} {listed : Array Bool} {a : Act} {w : World} {i : Nat} {rs : List Nat} {o : Oper} (h : ∀ K : Act → World → Prop, Shut (∀ a w, S w → (S w → wpAnyH P md ops Q S fuel (listed.setIfInBounds i true) a w) → K a w) → if Region.wanted o (yielded ops a.tmps) = true then Oper.wp P o a w K Q else K (a.put o.dst undef) w) (hs : AllReadyH P md ops Q S fuel listed a w rs) (ho : ops.toList[i]? = some o := by exact rfl) : AllReadyH P md ops Q S fuel listed a w (i :: rs) := aR o h hs (by rw [← ho]; simp)
theorem aE {P : Program} {md : Region.Mode} {ops : Array Oper} {Q : Exit → Act → World → Prop} {S : World → Prop} {fuel : Nat} {listed : Array Bool} {a : Act} {w : World} {i : Nat} {o : Oper} (h : ∀ K : Act → World → Prop, Shut (∀ a w, S w → (S w → wpAnyH P md ops Q S fuel (listed.setIfInBounds i true) a w) → K a w) → if Region.wanted o (yielded ops a.tmps) = true then Oper.wp P o a w K Q else K (a.put o.dst undef) w) (ho : ops.toList[i]? = some o := by exact rfl) : AllReadyH P md ops Q S fuel listed a w [i] := aR o h nR (by rw [← ho]; simp)
theorem wD {P : Program} {md : Region.Mode} {ops : Array Oper} {Q : Exit → Act → World → Prop} {S : World → Prop} {fuel : Nat} {listed : Array Bool} {a : Act} {w : World} (h : Q .normal a w) (hr : Region.ready md ops listed = [] := by kernel_rfl) : wpAnyH P md ops Q S fuel listed a w := wpAnyH_done hr h fuel
theorem wE {P : Program} {md : Region.Mode} {ops : Array Oper} {Q : Exit → Act → World → Prop} {S : World → Prop} {o : Oper} {fuel : Nat} {listed : Array Bool} {a : Act} {w : World} (i : Nat) (h : ∀ K : Act → World → Prop, Shut (∀ a w, S w → (S w → wpAnyH P md ops Q S fuel (listed.setIfInBounds i true) a w) → K a w) → if Region.wanted o (yielded ops a.tmps) = true then Oper.wp P o a w K Q else K (a.put o.dst undef) w) (ho : ops.toList[i]? = some o := by exact rfl) (hr : Region.ready md ops listed = [i] := by kernel_rfl) : wpAnyH P md ops Q S (fuel + 1) listed a w := wR (aE h ho) hr (by simp)
theorem ab0 {p : Prop} (h : p := by repeat' (first | with_reducible exact Below.refl _ _ | with_reducible assumption | with_reducible refine Below.alloc ?_ ?_ _ | with_reducible refine Below.setCell ?_ ?_ _ | with_reducible refine Below.drew ?_ | with_reducible refine below_drewN ?_ _ | with_reducible refine Below.trans ?_ (Below.mono (by with_reducible assumption) ?_) | omega | (simp <;> omega))) : p := h
theorem ab1 {p : Prop} (h : p := by (try simp only [HX_drew]); repeat' (first | with_reducible exact hHeld | with_reducible refine HX.set ?_ ?_ ?_ ?_ _ | with_reducible refine HX.new_at ?_ ?_ ?_ | with_reducible exact List.forall_mem_nil _ | with_reducible refine List.forall_mem_cons.2 ⟨fun e => ?_, ?_⟩ | with_reducible rfl | (dsimp only at e ⊢; omega) | omega | (simp; done))) : p := h
theorem ab2 {p : Prop} (h : p := by (try simp only [HX_drew]); (with_reducible refine HX.below hHeld ?_; (repeat' (first | with_reducible exact Below.refl _ _ | with_reducible assumption | with_reducible refine Below.alloc ?_ ?_ _ | with_reducible refine Below.drew ?_ | omega | (simp <;> omega))); done)) : p := h
theorem ab3 {p : Prop} (h : p := by (try simp only [HX_drew]); first | (with_reducible refine HX.new_at HS ?_ ?_ <;> first | with_reducible rfl | (simp; done)) | (with_reducible refine HX.new_at hHeld ?_ ?_ <;> first | with_reducible rfl | (simp; done))) : p := h
theorem ab4 {p : Prop} (h : p := by show w.heap.size ≤ w.heap.size + 1 + 1; omega) : p := h
theorem ab5 {p : Prop} (h : p := by (try simp only [HX_drew]); first | with_reducible exact HS | with_reducible exact hHeld | (with_reducible refine HX.below hHeld ?_; (repeat' (first | with_reducible exact Below.refl _ _ | with_reducible assumption | with_reducible refine Below.alloc ?_ ?_ _ | with_reducible refine Below.drew ?_ | omega | (simp <;> omega))); done)) : p := h
theorem ab6 {p : Prop} (h : p := by first | with_reducible exact ⟨⟨ub0, ub1, ub2, ub3, ub4, ub5, ub6⟩, ux0, ux1, ux2, ux3⟩ | exact ⟨⟨by go_simp, by go_simp, by go_simp, by go_simp, by go_simp, by go_simp, by go_simp⟩, by go_simp, by go_simp, by go_simp, by go_simp⟩) : p := h
theorem ab7 {p : Prop} (h : p := by (try simp only [HX_drew]); first | with_reducible exact HS2 | with_reducible exact ⟨HS2.1, cellB_drew HS2.2⟩ | with_reducible exact hHeld | with_reducible exact ⟨hHeld.1, cellB_drew hHeld.2⟩ | (with_reducible refine ⟨HX.below hHeld.1 ?_, CellB.below hHeld.2 ?_⟩ <;> (repeat' (first | with_reducible exact Below.refl _ _ | with_reducible assumption | with_reducible refine Below.alloc ?_ ?_ _ | with_reducible refine Below.drew ?_ | omega | (simp <;> omega))); done)) : p := h
theorem ab8 {p : Prop} (h : p := by first | with_reducible exact HS9 | with_reducible exact SK.drew HS9 | with_reducible exact SK.drew HS | with_reducible exact HS.below hb7 | with_reducible exact (HS.below hb7).below (Below.alloc (Below.refl _ _) (Nat.le_refl _) _) | with_reducible exact SK.drew ((HS.below hb7).below (Below.alloc (Below.refl _ _) (Nat.le_refl _) _)) | with_reducible exact SK.drew (HS.below hb7)) : p := h
theorem ab9 {p : Prop} (h : p := by first | with_reducible exact noDrew hb5' | exact hb5') : p := h
theorem ab10 {p : Prop} (h : p := by first | with_reducible exact noDrew hb4' | exact hb4') : p := h
theorem ab11 {p : Prop} (h : p := by first | with_reducible exact ⟨kx0, kx1, kx2⟩ | exact ⟨by go_simp, by go_simp, by go_simp⟩) : p := h
theorem ab12 {p : Prop} (h : p := by first | with_reducible exact hc1 | with_reducible exact hHeld | with_reducible exact hS4c | with_reducible exact hS5 | exact hc1 | exact (hSB.below hkb3 ab0).1) : p := h
theorem ab13 {p : Prop} (h : p := by first | with_reducible exact ⟨q06, q26, ⟨x06, x16, x26⟩, y0⟩ | exact ⟨by go_simp, by go_simp, ⟨by go_simp, by go_simp, by go_simp⟩, by go_simp⟩) : p := h
theorem ab14 {p : Prop} (h : p := by show w.heap.size ≤ w.heap.size + 1 + 1 + 1; omega) : p := h
theorem ab15 {p : Prop} (h : p := by first | with_reducible exact noDrew hb2' | exact hb2') : p := h
theorem ab16 {p : Prop} (h : p := by first | with_reducible exact ⟨b0, b1, b2, b3, b4, b5, b6⟩ | exact ⟨by go_simp, by go_simp, by go_simp, by go_simp, by go_simp, by go_simp, by go_simp⟩) : p := h
theorem ab17 {p : Prop} (h : p := by first | with_reducible exact noDrew hb3' | exact hb3') : p := h
theorem ab18 {p : Prop} (h : p := by first | with_reducible exact h | exact h.below (Below.drew (Below.refl _ _)) | with_reducible exact hHeld | exact hHeld.below (Below.drew (Below.refl _ _)) | (with_reducible refine RWalk.below hHeld ?_; (repeat' (first | with_reducible exact Below.refl _ _ | with_reducible assumption | with_reducible refine Below.alloc ?_ ?_ _ | with_reducible refine Below.drew ?_ | omega | (simp <;> omega))); done)) : p := h
theorem ab19 {p : Prop} (h : p := by first | with_reducible exact h | with_reducible exact h.drew | with_reducible exact hHeld | with_reducible exact hHeld.drew | (with_reducible refine Walk.below hHeld ?_; (repeat' (first | with_reducible exact Below.refl _ _ | with_reducible assumption | with_reducible refine Below.alloc ?_ ?_ _ | with_reducible refine Below.drew ?_ | omega | (simp <;> omega))); done)) : p := h
theorem ab20 {p : Prop} (h : p := by first | with_reducible exact ⟨⟨p0, p1⟩, x0, x1, x2⟩ | exact ⟨⟨by go_simp, by go_simp⟩, by go_simp, by go_simp, by go_simp⟩) : p := h
theorem ab21 {p : Prop} (h : p := by first | exact ⟨⟨by go_simp, by go_simp, by go_simp⟩, by go_simp, by go_simp, by go_simp⟩) : p := h
theorem ab22 {p : Prop} (h : p := by first | with_reducible exact ⟨⟨p0, p1⟩, ⟨x0, x1, x2⟩, y0, y1, y2⟩ | exact ⟨⟨by go_simp, by go_simp⟩, ⟨by go_simp, by go_simp, by go_simp⟩, by go_simp, by go_simp, by go_simp⟩) : p := h
theorem ab23 {p : Prop} (h : p := by show w.heap.size ≤ w.heap.size + 1 + 1 + 1 + 1; omega) : p := h
end Go.Proofs.YtnnmenmifphadaaGreatDoor
namespace Go.Proofs.YtnnmenmifphadaaGreatDoor
structure W3 where
 v : Int
 r : Int
 f : Int
deriving DecidableEq
abbrev w3V (x : W3) : Value := .agg #[.int .i64 x.v, .int .u32 x.r, .int .u32 x.f]
def z3 : W3 := ⟨0, 0, 0⟩
def w3c (x : W3) : List Value := [.int .i64 x.v, .int .u32 x.r, .int .u32 x.f]
end Go.Proofs.YtnnmenmifphadaaGreatDoor
namespace Go.Proofs.YtnnmenmifphadaaGreatDoor
open Go.RowKit
def BoxC (B : Nat) (cs : List Value) (w : World) : Prop := (∀ j u, cs[j]? = some u → w.cell? ⟨B, j, none⟩ = some u) ∧ (∀ o, w.frozen? ⟨B, o, none⟩ = false) ∧ B < w.heap.size
theorem BoxC.below {B : Nat} {cs : List Value} {w w' : World} (h : BoxC B cs w) (hb : Below w.heap.size w w') : BoxC B cs w' := by
 obtain ⟨h1, h2, h3⟩ := h
 exact ⟨fun j u hu => (hb.cell (p := ⟨B, j, none⟩) h3).trans (h1 j u hu), fun o => (hb.frozen (p := ⟨B, o, none⟩) h3).trans (h2 o), Nat.lt_of_lt_of_le h3 hb.size⟩
theorem BoxC.far {B C o : Nat} {cs : List Value} {w : World} (h : BoxC B cs w) (hne : C ≠ B) (x : Value) : BoxC B cs (w.setCell ⟨C, o, none⟩ x) := by
 obtain ⟨h1, h2, h3⟩ := h
 refine ⟨fun j u hu => ?_, fun o => by rw [World.frozen?_setCell]; exact h2 o, by simpa using h3⟩
 rw [World.cell?_setCell_other _ _ _ _ (by intro e; injection e with e _; exact hne e)]
 exact h1 j u hu
theorem BoxC.store {B o : Nat} {cs : List Value} {w : World} (h : BoxC B cs w) (ho : o < cs.length) (x : Value) : BoxC B (cs.set o x) (w.setCell ⟨B, o, none⟩ x) := by
 obtain ⟨h1, h2, h3⟩ := h
 refine ⟨fun j u hu => ?_, fun o => by rw [World.frozen?_setCell]; exact h2 o, by simpa using h3⟩
 rw [List.getElem?_set] at hu
 by_cases e : o = j
 ·subst e
  rw [if_pos rfl, if_pos ho] at hu
  injection hu with hu
  subst hu
  exact World.cell?_setCell_same _ _ _ (h1 o _ (List.getElem?_eq_getElem ho))
 ·rw [if_neg e] at hu
  rw [World.cell?_setCell_other _ _ _ _ (by intro e2; injection e2 with _ e2; exact e e2)]
  exact h1 j u hu
theorem BoxC.made (w : World) (cs : Array Value) (t : TypeId) : BoxC w.heap.size cs.toList (w.alloc (.cells cs t)) := by
 refine ⟨fun j u hu => ?_, fun o => World.frozen?_alloc_at _ _ _ _ rfl, by simp⟩
 have hh : (w.alloc (.cells cs t)).heap[w.heap.size]? = some (.cells cs t (0, 0)) := heap_alloc_new w _
 have hc : cs[j]? = some u := by rw [← Array.getElem?_toList]; exact hu
 simp only [World.cell?, hh]
 exact hc
theorem BoxC.made_at {w : World} {B : Nat} (hB : B = w.heap.size) (cs : Array Value) (t : TypeId) : BoxC B cs.toList (w.alloc (.cells cs t)) := by rw [hB]; exact BoxC.made w cs t
theorem BoxC.at {B : Nat} {cs : List Value} {w : World} (h : BoxC B cs w) {j : Nat} {u : Value} (hj : cs[j]? = some u) : w.cell? ⟨B, j, none⟩ = some u := h.1 j u hj
def CellB (b o : Nat) (u : Value) (w : World) : Prop := w.cell? ⟨b, o, none⟩ = some u ∧ b < w.heap.size
theorem CellB.below {b o : Nat} {u : Value} {w w' : World} (h : CellB b o u w) (hb : Below w.heap.size w w') : CellB b o u w' := ⟨(hb.cell (p := ⟨b, o, none⟩) h.2).trans h.1, Nat.lt_of_lt_of_le h.2 hb.size⟩
theorem CellB.of {b o : Nat} {u : Value} {w : World} (h : w.cell? ⟨b, o, none⟩ = some u) : CellB b o u w := ⟨h, cell_lt h⟩
theorem BoxC.of2 {B : Nat} {a b : Value} {w : World} (h0 : w.cell? ⟨B, 0, none⟩ = some a) (h1 : w.cell? ⟨B, 1, none⟩ = some b) (hf : ∀ o, w.frozen? ⟨B, o, none⟩ = false) : BoxC B [a, b] w :=
 ⟨fun j u hu => by
  match j, hu with
  | 0, hu => injection hu with hu; subst hu; exact h0
  | 1, hu => injection hu with hu; subst hu; exact h1, hf, cell_lt h0⟩
def HB (l : List (Nat × List Value)) (b o : Nat) (u : Value) (w : World) : Prop := (∀ p ∈ l, BoxC p.1 p.2 w) ∧ CellB b o u w
section
variable {l : List (Nat × List Value)} {b o : Nat} {u : Value} {w w' : World}
end
def BoxE (B n : Nat) (w : World) : Prop := ∃ cs : List Value, cs.length = n ∧ BoxC B cs w
theorem BoxC.some {B : Nat} {cs : List Value} {w : World} (h : BoxC B cs w) : BoxE B cs.length w := ⟨cs, rfl, h⟩
theorem BoxE.below {B n : Nat} {w w' : World} (h : BoxE B n w) (hb : Below w.heap.size w w') : BoxE B n w' := by
 obtain ⟨cs, h1, h2⟩ := h
 exact ⟨cs, h1, h2.below hb⟩
theorem BoxE.at {B n j : Nat} {w : World} (h : BoxE B n w) (hj : j < n) : ∃ u, w.cell? ⟨B, j, none⟩ = some u := by
 obtain ⟨cs, h1, h2⟩ := h
 exact ⟨_, h2.1 j _ (List.getElem?_eq_getElem oM)⟩
theorem BoxE.fz {B n : Nat} {w : World} (h : BoxE B n w) (o : Nat) : w.frozen? ⟨B, o, none⟩ = false := by
 obtain ⟨cs, h1, h2⟩ := h
 exact h2.2.1 o
theorem BoxE.set {B n C o : Nat} {w : World} (h : BoxE B n w) (ho : C = B → o < n) (x : Value) : BoxE B n (w.setCell ⟨C, o, none⟩ x) := by
 obtain ⟨cs, h1, h2⟩ := h
 by_cases e : C = B
 ·subst e
  exact ⟨cs.set o x, by rw [List.length_set]; exact h1, h2.store (by rw [h1]; exact ho rfl) x⟩
 ·exact ⟨cs, h1, h2.far e x⟩
theorem CellB.far {b o C j : Nat} {u : Value} {w : World} (h : CellB b o u w) (hne : C ≠ b) (x : Value) : CellB b o u (w.setCell ⟨C, j, none⟩ x) := by
 refine ⟨?_, by simpa using h.2⟩
 rw [World.cell?_setCell_other _ _ _ _ (by intro e; injection e with e _; exact hne e)]
 exact h.1
def HX (N : Nat) (cs : List Value) (b o : Nat) (u : Value) (l : List (Nat × Nat)) (w : World) : Prop := BoxC N cs w ∧ CellB b o u w ∧ ∀ p ∈ l, BoxE p.1 p.2 w
section
variable {N : Nat} {cs : List Value} {b o : Nat} {u : Value} {l : List (Nat × Nat)} {w w' : World}
theorem HX.below (h : HX N cs b o u l w) (hb : Below w.heap.size w w') : HX N cs b o u l w' := ⟨h.1.below hb, h.2.1.below hb, fun p hp => (h.2.2 p hp).below hb⟩
theorem HX_drew : HX N cs b o u l w.drew = HX N cs b o u l w := rfl
theorem oK {P : Program} {md : Region.Mode} {ops : Array Oper} {Q : Exit → Act → World → Prop} {S : World → Prop} {fuel : Nat} {listed l' : Array Bool} {a a' : Act} {w : World} {K : Act → World → Prop} {S1 : Prop} (hK : Shut (∀ a w, S w → (S w → wpAnyH P md ops Q S fuel listed a w) → K a w)) (hs : S w) (h : S1 → wpAnyH P md ops Q S fuel l' a' w) (e : a = a' := by (try simp only [Act.put, pS]); exact rfl) (el : listed = l' := by (try simp only [pS]); exact rfl) (es : S w = S1 := by (try simp only [HX_drew]); exact rfl) : K a w := hK.out a w hs (fun q => e ▸ el ▸ h (es.mp q))
theorem oS {P : Program} {md : Region.Mode} {ops : Array Oper} {Q : Exit → Act → World → Prop} {S : World → Prop} {fuel : Nat} {listed l' : Array Bool} {a a' : Act} {w : World} {K : Act → World → Prop} {S1 : Prop} (hK : Shut (∀ a w, S w → (S w → wpAnyH P md ops Q S fuel listed a w) → K a w)) (S' : World → Prop) (hS : ∀ w, S' w → S w) (hs : S' w) (h : S1 → wpAnyH P md ops Q S' fuel l' a' w) (e : a = a' := by (try simp only [Act.put, pS]); exact rfl) (el : listed = l' := by (try simp only [pS]); exact rfl) (es : S' w = S1 := by (try simp only [HX_drew]); exact rfl) : K a w := shut_more hK hS hs (fun q => e ▸ el ▸ h (es.mp q))
theorem HX.push {B n : Nat} (h : HX N cs b o u l w) (hx : BoxE B n w) : HX N cs b o u ((B, n) :: l) w := ⟨h.1, h.2.1, fun p hp => by
 rcases List.mem_cons.1 hp with rfl | hp
 ·exact hx
 ·exact h.2.2 p hp⟩
theorem HX.pop {p : Nat × Nat} (h : HX N cs b o u (p :: l) w) : HX N cs b o u l w := ⟨h.1, h.2.1, fun q hq => h.2.2 q (List.mem_cons_of_mem _ hq)⟩
theorem HX.new_at {B n : Nat} {vs : Array Value} {t : TypeId} (h : HX N cs b o u l w) (hB : B = w.heap.size) (hn : vs.size = n) : HX N cs b o u ((B, n) :: l) (w.alloc (.cells vs t)) := by
 subst hB; subst hn
 exact (h.below (Below.alloc (Below.refl _ _) (Nat.le_refl _) _)).push ⟨vs.toList, by simp, BoxC.made w vs t⟩
theorem HX.set {C j : Nat} (h : HX N cs b o u l w) (h1 : C ≠ N) (h2 : C ≠ b) (h3 : ∀ p ∈ l, C = p.1 → j < p.2) (x : Value) : HX N cs b o u l (w.setCell ⟨C, j, none⟩ x) := ⟨h.1.far h1 x, h.2.1.far h2 x, fun p hp => (h.2.2 p hp).set (h3 p hp) x⟩
theorem HX.box {B n : Nat} (h : HX N cs b o u l w) (hm : (B, n) ∈ l) : BoxE B n w := h.2.2 _ hm
end
theorem own_some {w : World} {base size n : Nat} {e : TypeId} {v : Value} {xs : List Value} (h : w.ownsRow base e size v n xs) (hn : 0 < n) : ∃ g cap, v = .slice (some ⟨g, 0, none⟩) n cap ∧ n ≤ cap ∧ base ≤ g ∧ Rd w w.heap.size size (some ⟨g, 0, none⟩) n xs := by
 obtain ⟨A, cap, e1, hr⟩ := Rd.of_own h
 obtain ⟨_, h2⟩ := h
 rcases h2 with ⟨_, rfl⟩ | ⟨g, cap', cur, rfl, hg, _, hc, _⟩
 ·omega
 ·injection e1 with e1 _ e3
  subst e1
  exact ⟨g, cap', rfl, hc, hg, hr⟩
end Go.Proofs.YtnnmenmifphadaaGreatDoor
