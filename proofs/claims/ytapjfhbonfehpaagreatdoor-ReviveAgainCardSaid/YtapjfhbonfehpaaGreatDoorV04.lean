/- Small facts on worlds, slices that can be read, and the arguments of a law; no program is named here. -/
import Derived.Test.YtapjfhbonfehpaaGreatDoorV01
import Derived.WalkKit
import Derived.ProofKit
import Derived.OpenShut
import Derived.Deep.Fields
import Derived.Deep.Draws
set_option linter.unusedSimpArgs false
set_option linter.unusedVariables false
namespace Go.Proofs.YtapjfhbonfehpaaGreatDoor
open Go.ChangeShapes Go.WideShapes Go.ChangeAt Go.RowKit Go.Deep
theorem bE {W w1 : World} (hb : Below W.heap.size W w1) : (∀ b o, b < W.heap.size → w1.cell? ⟨b, o, none⟩ = W.cell? ⟨b, o, none⟩) ∧ (∀ b o, b < W.heap.size → w1.frozen? ⟨b, o, none⟩ = W.frozen? ⟨b, o, none⟩) :=
 ⟨fun b o h => hb.cell (p := ⟨b, o, none⟩) h, fun b o h => hb.frozen (p := ⟨b, o, none⟩) h⟩
theorem CV {B : Nat} {W w1 : World} (hb : Below B W w1) : (∀ b o, b < B → w1.cell? ⟨b, o, none⟩ = W.cell? ⟨b, o, none⟩) ∧ (∀ b o, b < B → w1.frozen? ⟨b, o, none⟩ = W.frozen? ⟨b, o, none⟩) :=
 ⟨fun b o h => hb.cell (p := ⟨b, o, none⟩) h, fun b o h => hb.frozen (p := ⟨b, o, none⟩) h⟩
theorem below_drewN {B : Nat} {a w : World} (h : Below B a w) (n : Nat) : Below B a (w.drewN n) := ⟨h.os, h.tape, h.output, h.size, h.block⟩
theorem aa {p : Prop} (h : p) : Hid p := h
theorem cB {w : World} {a : Addr} {v : Value} (h : w.cell? a = some v) : a.block < w.heap.size := by
 rcases Nat.lt_or_ge a.block w.heap.size with hl | hg
 ·exact hl
 ·exfalso;unfold World.cell? at h;rw [Array.getElem?_eq_none hg] at h;simp at h
def Rd (w : World) (B size : Nat) (A : Option Addr) (n : Nat) (xs : List Value) : Prop :=
 xs.length = n * size ∧ (0 < n → ∃ b off, A = some ⟨b, off, none⟩ ∧ b < B ∧ ∀ j u, xs[j]? = some u → w.cell? ⟨b, off + j, none⟩ = some u)
section
variable {w w' : World} {B B' size : Nat} {A : Option Addr} {n : Nat} {xs : List Value}
theorem Rd.nil (w : World) (B size : Nat) (A : Option Addr) : Rd w B size A 0 [] := ⟨by simp, fun h => absurd h (Nat.lt_irrefl 0)⟩
theorem Rd.below (h : Rd w B size A n xs) (hb : Below B w w') : Rd w' B size A n xs :=
 ⟨h.1, fun hn => by
  obtain ⟨b, off, e, hB, hc⟩ := h.2 hn;exact ⟨b, off, e, hB, fun j u hu => (hb.cell (p := ⟨b, off + j, none⟩) hB).trans (hc j u hu)⟩⟩
theorem Rd.more (h : Rd w B size A n xs) (hB : B ≤ B') : Rd w B' size A n xs :=
 ⟨h.1, fun hn => by
  obtain ⟨b, off, e, h1, hc⟩ := h.2 hn;exact ⟨b, off, e, Nat.lt_of_lt_of_le h1 hB, hc⟩⟩
theorem Rd.at_ (h : Rd w B size A n xs) {k : Nat} (hk : k < n) : ∃ b off, A = some ⟨b, off, none⟩ ∧ b < B ∧ ∀ j u, xs[j]? = some u → w.cell? ⟨b, off + j, none⟩ = some u := h.2 (by omega)
theorem Rd.of_own {base : Nat} {e : TypeId} {v : Value} (h : w.ownsRow base e size v n xs) : ∃ A cap, v = .slice A n cap ∧ Rd w w.heap.size size A n xs := by
 have hc := @World.ownsRow.cells _ _ _ _ _ _ _ h;have hlt := h.lt;obtain ⟨h1, h2⟩ := h;rcases h2 with ⟨rfl, rfl⟩ | ⟨g, cap, cur, rfl, hg, hh, _⟩
 ·obtain rfl : xs = [] := List.eq_nil_of_length_eq_zero (by simpa using h1);exact ⟨none, 0, rfl, Rd.nil _ _ _ _⟩
 ·refine ⟨_, cap, rfl, h1, fun hn => ⟨g, 0, rfl, (hlt g rfl).2, fun j u hu => ?_⟩⟩;have := hc (g := g) rfl j u hu;rw [Go.WideShapes.add_plain] at this;simpa using this
end
section
variable {H : Type} {enc : TypeId × Value → H} {P : Program} {w : World} {base : Nat} {spare : Nat → Bool} {held : Bool}
theorem tN {w : World} {a : Addr} {n : Nat} {f : Nat → Value} (h : ∀ i, i < n → w.cell? (a.add i) = some (f i)) (hp : 0 < n) : ∃ b off, a = ⟨b, off, none⟩ ∧ b < w.heap.size ∧ ∀ j, j < n → w.cell? ⟨b, off + j, none⟩ = some (f j) := by
 obtain ⟨b, off, spot⟩ := a;have hspot : spot = none := by simpa [Addr.add] using World.cell?_spot (h 0 hp)
 subst hspot;have h0 := h 0 hp;rw [Go.WideShapes.add_plain] at h0;exact ⟨b, off, rfl, cB h0, fun j hj => by rw [← Go.WideShapes.add_plain]; exact h j hj⟩
end
section
variable {H : Type} {enc : TypeId × Value → H} {P : Program} {w : World} {base : Nat} {spare : Nat → Bool} {held : Bool}
theorem iy {t : TypeId} {k : IntKind} {m : Nat} {u : Value} {y : DataW H × List MemPlace} (ht : P.underlying t = some (.int k)) (h : DataW.trod enc P w base spare held m t [u] = some y) : ∃ z, u = .int k z ∧ (Lit.int k z).wf = true := by
 obtain ⟨z, e, _, wz⟩ := DataW.trod_int ht h;simp at e;exact ⟨z, e, wz⟩
theorem Mf {t : TypeId} {m : Nat} {u : Value} {y : DataW H × List MemPlace} (ht : P.underlying t = some .bool) (h : DataW.trod enc P w base spare held m t [u] = some y) : ∃ b, u = .bool b := by
 obtain ⟨b, e, _⟩ := DataW.trod_bool ht h;simp at e;exact ⟨b, e⟩
end
theorem told {α : Type} (size : Nat) (g : α → List Value) (hg : ∀ a, (g a).length = size) : ∀ (n : Nat) (xs : List Value), xs.length = n * size →
  (∀ i, i < n → ∃ a, ∀ j, j < size → xs[i * size + j]? = (g a)[j]?) → ∃ l : List α, l.length = n ∧ xs = l.flatMap g
 | 0, xs, hl, _ => ⟨[], rfl, List.eq_nil_of_length_eq_zero (by simpa using hl)⟩
 | n + 1, xs, hl, h => by
  have hl' : xs.length = n * size + size := by rw [hl, Nat.succ_mul]
  obtain ⟨l, h1, h2⟩ := told size g hg n (xs.take (n * size)) (by simp; omega) (fun i hi => by
   obtain ⟨a, ha⟩ := h i (by omega);refine ⟨a, fun j hj => ?_⟩;have : (i + 1) * size ≤ n * size := Nat.mul_le_mul_right _ hi;rw [Nat.succ_mul] at this;rw [List.getElem?_take, if_pos (by omega)];exact ha j hj)
  obtain ⟨a, ha⟩ := h n (by omega);refine ⟨l ++ [a], by simp [h1], ?_⟩;rw [List.flatMap_append, ← h2];simp only [List.flatMap_cons, List.flatMap_nil, List.append_nil];have e : xs.drop (n * size) = g a := by
   apply List.ext_getElem?;intro j;rw [List.getElem?_drop];by_cases hj : j < size
   ·exact ha j hj
   ·rw [List.getElem?_eq_none (by omega), List.getElem?_eq_none (by rw [hg]; omega)]
  rw [← e, List.take_append_drop]
theorem mU {α : Type} (size : Nat) (g : α → List Value) (hg : ∀ a, (g a).length = size) (Q : α → Prop) : ∀ (n : Nat) (xs : List Value), xs.length = n * size →
  (∀ i, i < n → ∃ a, Q a ∧ ∀ j, j < size → xs[i * size + j]? = (g a)[j]?) → ∃ l : List α, l.length = n ∧ (∀ a ∈ l, Q a) ∧ xs = l.flatMap g := by
 intro n xs hl h;have h' : ∀ i, i < n → ∃ a : { a : α // Q a }, ∀ j, j < size → xs[i * size + j]? = (g a.1)[j]? := fun i hi => by
  obtain ⟨a, hq, ha⟩ := h i hi;exact ⟨⟨a, hq⟩, ha⟩
 obtain ⟨l, h1, h2⟩ := told size (fun a : { a : α // Q a } => g a.1) (fun a => hg a.1) n xs hl h';refine ⟨l.map (·.1), by simp [h1], fun a ha => ?_, ?_⟩
 ·obtain ⟨b, _, rfl⟩ := List.mem_map.1 ha;exact b.2
 ·rw [h2, List.flatMap_map]
theorem dn {α : Type} {size : Nat} {g : α → List Value} (hg : ∀ a, (g a).length = size) : ∀ (l : List α) (k : Nat) (a : α), l[k]? = some a → ∀ j, j < size → (l.flatMap g)[k * size + j]? = (g a)[j]?
 | [], k, a, h, _, _ => by simp at h
 | b :: l, 0, a, h, j, hj => by
  simp at h;subst h;simp [List.flatMap_cons, List.getElem?_append_left (show j < (g b).length by rw [hg]; exact hj)]
 | b :: l, k + 1, a, h, j, hj => by
  rw [List.flatMap_cons, List.getElem?_append_right (by rw [hg, Nat.succ_mul]; omega), hg, show (k + 1) * size + j - size = k * size + j by rw [Nat.succ_mul]; omega];exact dn hg l k a (by simpa using h) j hj
theorem aG {a w : World} (h : Below a.heap.size a w) (row : Option Nat) : a.grownBy w row := ⟨h.os, h.tape, h.output, h.size, fun i hi _ => h.block i hi⟩
theorem own_below {w w' : World} {base size n : Nat} {e : TypeId} {v : Value} {xs : List Value} (h : w.ownsRow base e size v n xs) (hb : Below w.heap.size w w') : w'.ownsRow base e size v n xs :=
 h.kept (aG hb none) (by cases v.ownBlock <;> simp)
theorem own_ne {w : World} {base size n b : Nat} {e : TypeId} {v : Value} {xs : List Value} (h : w.ownsRow base e size v n xs) (hb : b < base ∨ w.heap.size ≤ b) : v.ownBlock ≠ some b := by
 intro he;have := h.lt b he;omega
theorem below_grown {a w w' : World} {B base size n : Nat} {e : TypeId} {v : Value} {xs : List Value} (h : Below B a w) (hg : w.grownBy w' v.ownBlock) (hown : w.ownsRow base e size v n xs) (hB : B ≤ base) (hB2 : B ≤ w.heap.size) : Below B a w' :=
 h.grown hg hB2 (fun k hk => by have := hown.lt k hk; omega)
theorem Rd.elem {α : Type} {w : World} {B size n : Nat} {A : Option Addr} {g : α → List Value} {l : List α} (hr : Rd w B size A n (l.flatMap g)) (hg : ∀ a, (g a).length = size) {k : Nat} (hk : k < n) {a : α} (ha : l[k]? = some a) :
  ∃ b off, A = some ⟨b, off, none⟩ ∧ b < B ∧ ∀ j u, (g a)[j]? = some u → w.cell? ⟨b, off + k * size + j, none⟩ = some u := by
 obtain ⟨b, off, e, hb, hc⟩ := hr.at_ hk;refine ⟨b, off, e, hb, fun j u hu => ?_⟩;have hj : j < size := by
  rw [← hg a];exact (List.getElem?_eq_some_iff.1 hu).1
 rw [Nat.add_assoc];exact hc _ _ ((dn hg l k a ha j hj).trans hu)
theorem Rd.set_far {w : World} {B size b n c o : Nat} {xs : List Value} (h : Rd w B size (some ⟨b, 0, none⟩) n xs) (hne : c ≠ b) (x : Value) : Rd (w.setCell ⟨c, o, none⟩ x) B size (some ⟨b, 0, none⟩) n xs := by
 refine ⟨h.1, fun hn => ?_⟩;obtain ⟨b', off, e, hB, hc⟩ := h.2 hn;refine ⟨b', off, e, hB, fun j u hu => ?_⟩;injection e with e
 injection e with e1 e2
 subst e1 e2;rw [World.cell?_setCell_other _ _ _ _ (by intro e3; injection e3 with e3 _; exact hne e3)];exact hc j u hu
theorem dx {w w' : World} (h : Below w.drew.heap.size w.drew w') : Below w.heap.size w w' := (Below.refl _ _).drew.trans h
abbrev cd (v : Value) (W : World) (e : Ending) (w' : World) : Prop := e = .returned v ∧ Below W.heap.size W w'
theorem oM {p : Prop} (h : p := by omega) : p := h
theorem cE (w : World) (b o : Nat) (v : Value) (h : w.cell? ⟨b, o, none⟩ = some v := by go_simp) : w.cell? ⟨b, o, none⟩ = some v := h
theorem cI (w : World) (b o : Nat) (v : Int) (h : w.cell? ⟨b, o, none⟩ = some (.int .i64 v) := by go_simp) : w.cell? ⟨b, o, none⟩ = some (.int .i64 v) := h
theorem cR {w u : World} (e : w = u) (b o : Nat) (v : Value) (h : u.cell? ⟨b, o, none⟩ = some v := by go_simp) : w.cell? ⟨b, o, none⟩ = some v := e ▸ h
theorem cJ {w u : World} (e : w = u) (b o : Nat) (v : Int) (h : u.cell? ⟨b, o, none⟩ = some (.int .i64 v) := by go_simp) : w.cell? ⟨b, o, none⟩ = some (.int .i64 v) := e ▸ h
theorem zL (b : Nat) (w : World) (h : b < w.heap.size := by omega) : b < w.heap.size := h
theorem fE (w : World) (b : Nat) (h : ∀ o, w.frozen? ⟨b, o, none⟩ = false := by intro o; go_simp) : ∀ o, w.frozen? ⟨b, o, none⟩ = false := h
theorem sM {p : Prop} (h : p := by simp) : p := h
theorem kR {p : Prop} (h : p := by kernel_rfl) : p := h
theorem aM {p : Prop} (h : p := by assumption) : p := h
theorem dM {p : Prop} (h : p := by decide) : p := h
theorem tk {P : Program} {md : Region.Mode} {ops : Array Oper} {Q : Exit → Act → World → Prop} {S : World → Prop} (i : Nat) (oi : Oper) {v : Value} {fuel : Nat} {listed : Array Bool} {a : Act} {w : World} (hy : ∀ w, S w → (execOp a.eval oi).run P w = .ok (.value v) w) (h : wpAnyH P md ops Q S fuel (listed.setIfInBounds i true) (a.put oi.dst v) w) (hw : Region.wanted oi (yielded ops a.tmps) = true := by rfl) (hi : ops[i]? = some oi := by rfl) (hs : Region.noSelect ops = true := by kernel_rfl) (hf : Region.free md ops listed i = true := by kernel_rfl) (hr : (Region.ready md ops listed).contains i = true := by kernel_rfl) (hQ : ∀ c a w, Q (.panic c) (a.put oi.dst v) w → Q (.panic c) a w := by exact fun _ _ _ h => h) (hS : S w := by assumption) : wpAnyH P md ops Q S (fuel + 1) listed a w := wpAnyH_take hi hs hf hr hQ (.inl ⟨hw, hy⟩) hS h
theorem pS.{u} : (∀ {α : Type u} (l : List α) (i : Nat) (a : α), l.toArray.setIfInBounds i a = (l.set i a).toArray) ∧ (∀ {α : Type u} (x : α) (xs : List α) (a : α), (x :: xs).set 0 a = a :: xs) ∧ (∀ {α : Type u} (x : α) (xs : List α) (i : Nat) (a : α), (x :: xs).set (i + 1) a = x :: xs.set i a) := ⟨fun _ _ _ => by simp, fun _ _ _ => rfl, fun _ _ _ _ => rfl⟩
theorem wR {P : Program} {md : Region.Mode} {ops : Array Oper} {Q : Exit → Act → World → Prop} {S : World → Prop} {rs : List Nat} {fuel : Nat} {listed : Array Bool} {a : Act} {w : World} (h : AllReadyH P md ops Q S fuel listed a w rs) (hr : Region.ready md ops listed = rs := by kernel_rfl) (hne : rs ≠ [] := by simp) : wpAnyH P md ops Q S (fuel + 1) listed a w := wpAnyH_ready hr hne h
theorem aR {P : Program} {md : Region.Mode} {ops : Array Oper} {Q : Exit → Act → World → Prop} {S : World → Prop} {fuel : Nat} {listed : Array Bool} {a : Act} {w : World} {i : Nat} {rs : List Nat} (o : Oper) (h : ∀ K : Act → World → Prop, Shut (∀ a w, S w → (S w → wpAnyH P md ops Q S fuel (listed.setIfInBounds i true) a w) → K a w) → if Region.wanted o (yielded ops a.tmps) = true then Oper.wp P o a w K Q else K (a.put o.dst undef) w) (hs : AllReadyH P md ops Q S fuel listed a w rs) (ho : ops[i]? = some o := by rfl) : AllReadyH P md ops Q S fuel listed a w (i :: rs) := AllReadyH.cons ho h hs
theorem nR {P : Program} {md : Region.Mode} {ops : Array Oper} {Q : Exit → Act → World → Prop} {S : World → Prop} {fuel : Nat} {listed : Array Bool} {a : Act} {w : World} : AllReadyH P md ops Q S fuel listed a w [] := AllReadyH.nil
theorem bC {W w1 : World} (h : Below W.heap.size W w1) : (∀ b o, b < W.heap.size → w1.cell? ⟨b, o, none⟩ = W.cell? ⟨b, o, none⟩) ∧ (∀ b o, b < W.heap.size → w1.frozen? ⟨b, o, none⟩ = W.frozen? ⟨b, o, none⟩) ∧ W.heap.size ≤ w1.heap.size := ⟨(bE h).1, (bE h).2, h.size⟩
theorem cT {B : Nat} {w u : World} {p : Addr} {v : Option Value} (h : Below B w u) (e : w.cell? p = v) (hp : p.block < B) : u.cell? p = v := (h.cell hp).trans e
theorem fT {B b : Nat} {w u : World} (h : Below B w u) (f : ∀ o, w.frozen? ⟨b, o, none⟩ = false) (hb : b < B) : ∀ o, u.frozen? ⟨b, o, none⟩ = false := fun o => (h.frozen (p := ⟨b, o, none⟩) hb).trans (f o)
theorem fR {w u : World} (e : w = u) (b : Nat) (h : ∀ o, u.frozen? ⟨b, o, none⟩ = false := by intro o; go_simp) : ∀ o, w.frozen? ⟨b, o, none⟩ = false := e ▸ h
theorem rB {P : Program} {f : Nat} {as : Array Value} {W : World} {v : Value} {Q : Ending → World → Prop} (h : Calls P f as W (cd v W)) (k : ∀ w1, Below W.heap.size W w1 → (∀ b o, b < W.heap.size → w1.cell? ⟨b, o, none⟩ = W.cell? ⟨b, o, none⟩) → (∀ b o, b < W.heap.size → w1.frozen? ⟨b, o, none⟩ = W.frozen? ⟨b, o, none⟩) → W.heap.size ≤ w1.heap.size → Q (.returned v) w1) : Calls P f as W Q := h.mono fun _ w1 q => q.1 ▸ k w1 q.2 (bC q.2).1 (bC q.2).2.1 (bC q.2).2.2
theorem tf0 {p : Prop} (h : p := by (try dsimp only at hSw); go_simp; (try with_reducible rfl); done) : p := h
theorem tf1 {p : Prop} (h : p := by (try dsimp only at hSw); have kS0 := hSw.1.1 0 _ rfl; have kS1 := hSw.1.1 1 _ rfl; have kSc := hSw.2.1.1; go_simp; (try with_reducible rfl); done) : p := h
theorem az {P : Program} {md : Region.Mode} {ops : Array Oper} {Q : Exit → Act → World → Prop} {S : World → Prop} (i : Nat) {oi : Oper} {v : Value} {fuel : Nat} {listed : Array Bool} {a : Act} {w : World} {a1 : Act} {l1 : Array Bool} (h : wpAnyH P md ops Q S fuel l1 a1 w) (hi : ops.toList[i]? = some oi := by exact rfl) (hy : ∀ w, S w → (execOp a.eval oi).run P w = .ok (.value v) w := by intro _ hSw; exact tf0) (e : a.put oi.dst v = a1 := by (try simp only [Act.put, pS]); exact rfl) (el : listed.setIfInBounds i true = l1 := by (try simp only [pS]); exact rfl) (hw : Region.wanted oi (yielded ops a.tmps) = true := by rfl) (hs : Region.noSelect ops = true := by kernel_rfl) (hf : Region.free md ops listed i = true := by kernel_rfl) (hr : (Region.ready md ops listed).contains i = true := by kernel_rfl) (hQ : ∀ c a w, Q (.panic c) (a.put oi.dst v) w → Q (.panic c) a w := by exact fun _ _ _ h => h) (hS : S w := by assumption) : wpAnyH P md ops Q S (fuel + 1) listed a w := tk i oi hy (e ▸ el ▸ h) hw (by rw [← hi]; simp) hs hf hr hQ hS
theorem dm {P : Program} {md : Region.Mode} {ops : Array Oper} {Q : Exit → Act → World → Prop} {S : World → Prop} (i : Nat) {oi : Oper} {v : Value} {fuel : Nat} {listed : Array Bool} {a : Act} {w : World} {a1 : Act} {l1 : Array Bool} (h : wpAnyH P md ops Q S fuel l1 a1 w) (hi : ops.toList[i]? = some oi := by exact rfl) (hy : ∀ w, S w → (execOp a.eval oi).run P w = .ok (.value v) w := by intro _ hSw; exact tf1) (e : a.put oi.dst v = a1 := by (try simp only [Act.put, pS]); exact rfl) (el : listed.setIfInBounds i true = l1 := by (try simp only [pS]); exact rfl) (hw : Region.wanted oi (yielded ops a.tmps) = true := by rfl) (hs : Region.noSelect ops = true := by kernel_rfl) (hf : Region.free md ops listed i = true := by kernel_rfl) (hr : (Region.ready md ops listed).contains i = true := by kernel_rfl) (hQ : ∀ c a w, Q (.panic c) (a.put oi.dst v) w → Q (.panic c) a w := by exact fun _ _ _ h => h) (hS : S w := by assumption) : wpAnyH P md ops Q S (fuel + 1) listed a w := tk i oi hy (e ▸ el ▸ h) hw (by rw [← hi]; simp) hs hf hr hQ hS
theorem aI {P : Program} {md : Region.Mode} {ops : Array Oper} {Q : Exit → Act → World → Prop} {S : World → Prop} {fuel : Nat} {listed : Array Bool} {a : Act} {w : World} {i : Nat} {rs : List Nat} {o : Oper} (h : ∀ K : Act → World → Prop, Shut (∀ a w, S w → (S w → wpAnyH P md ops Q S fuel (listed.setIfInBounds i true) a w) → K a w) → if Region.wanted o (yielded ops a.tmps) = true then Oper.wp P o a w K Q else K (a.put o.dst undef) w) (hs : AllReadyH P md ops Q S fuel listed a w rs) (ho : ops.toList[i]? = some o := by exact rfl) : AllReadyH P md ops Q S fuel listed a w (i :: rs) := aR o h hs (by rw [← ho]; simp)
theorem aE {P : Program} {md : Region.Mode} {ops : Array Oper} {Q : Exit → Act → World → Prop} {S : World → Prop} {fuel : Nat} {listed : Array Bool} {a : Act} {w : World} {i : Nat} {o : Oper} (h : ∀ K : Act → World → Prop, Shut (∀ a w, S w → (S w → wpAnyH P md ops Q S fuel (listed.setIfInBounds i true) a w) → K a w) → if Region.wanted o (yielded ops a.tmps) = true then Oper.wp P o a w K Q else K (a.put o.dst undef) w) (ho : ops.toList[i]? = some o := by exact rfl) : AllReadyH P md ops Q S fuel listed a w [i] := aR o h nR (by rw [← ho]; simp)
theorem wD {P : Program} {md : Region.Mode} {ops : Array Oper} {Q : Exit → Act → World → Prop} {S : World → Prop} {fuel : Nat} {listed : Array Bool} {a : Act} {w : World} (h : Q .normal a w) (hr : Region.ready md ops listed = [] := by kernel_rfl) : wpAnyH P md ops Q S fuel listed a w := wpAnyH_done hr h fuel
theorem wE {P : Program} {md : Region.Mode} {ops : Array Oper} {Q : Exit → Act → World → Prop} {S : World → Prop} {o : Oper} {fuel : Nat} {listed : Array Bool} {a : Act} {w : World} (i : Nat) (h : ∀ K : Act → World → Prop, Shut (∀ a w, S w → (S w → wpAnyH P md ops Q S fuel (listed.setIfInBounds i true) a w) → K a w) → if Region.wanted o (yielded ops a.tmps) = true then Oper.wp P o a w K Q else K (a.put o.dst undef) w) (ho : ops.toList[i]? = some o := by exact rfl) (hr : Region.ready md ops listed = [i] := by kernel_rfl) : wpAnyH P md ops Q S (fuel + 1) listed a w := wR (aE h ho) hr (by simp)
theorem ae {p : Prop} (h : p := by repeat' (first | with_reducible exact Below.refl _ _ | with_reducible assumption | with_reducible refine Below.alloc ?_ ?_ _ | with_reducible refine Below.setCell ?_ ?_ _ | with_reducible refine Below.drew ?_ | with_reducible refine below_drewN ?_ _ | with_reducible refine Below.trans ?_ (Below.mono (by with_reducible assumption) ?_) | omega | (simp <;> omega))) : p := h
theorem gg {p : Prop} (h : p := by (try simp only [jl]); repeat' (first | with_reducible exact hHeld | with_reducible refine HX.set ?_ ?_ ?_ ?_ _ | with_reducible refine HX.new_at ?_ ?_ ?_ | with_reducible exact List.forall_mem_nil _ | with_reducible refine List.forall_mem_cons.2 ⟨fun e => ?_, ?_⟩ | with_reducible rfl | (dsimp only at e ⊢; omega) | omega | (simp; done))) : p := h
theorem fU {p : Prop} (h : p := by (try simp only [jl]); (with_reducible refine HX.below hHeld ?_; (repeat' (first | with_reducible exact Below.refl _ _ | with_reducible assumption | with_reducible refine Below.alloc ?_ ?_ _ | with_reducible refine Below.drew ?_ | omega | (simp <;> omega))); done)) : p := h
theorem jJ {p : Prop} (h : p := by (try simp only [jl]); first | (with_reducible refine HX.new_at HS ?_ ?_ <;> first | with_reducible rfl | (simp; done)) | (with_reducible refine HX.new_at hHeld ?_ ?_ <;> first | with_reducible rfl | (simp; done))) : p := h
theorem uZ {p : Prop} (h : p := by repeat' (first | with_reducible exact bB.refl _ _ _ | with_reducible assumption | with_reducible refine bB.alloc ?_ ?_ _ | with_reducible refine bB.setCell ?_ ?_ _ | with_reducible refine bB.drew ?_ | with_reducible refine bB.drewN ?_ _ | with_reducible refine bB.of ?_ (Below.mono (by with_reducible assumption) ?_) | (left; rfl) | omega | (right; simp <;> omega) | (simp <;> omega))) : p := h
theorem ko {p : Prop} (h : p := by show w.heap.size ≤ w.heap.size + 1 + 1; omega) : p := h
theorem Gg {p : Prop} (h : p := by (try simp only [jl]); first | with_reducible exact HS | with_reducible exact hHeld | (with_reducible refine HX.below hHeld ?_; (repeat' (first | with_reducible exact Below.refl _ _ | with_reducible assumption | with_reducible refine Below.alloc ?_ ?_ _ | with_reducible refine Below.drew ?_ | omega | (simp <;> omega))); done)) : p := h
theorem jM {p : Prop} (h : p := by first | with_reducible exact dx bU | exact bU) : p := h
theorem ab8 {p : Prop} (h : p := by first | with_reducible exact ⟨⟨Q3, Q2, Q0, QZ, QY, QX, QW⟩, QV, QU, QT, QS⟩ | exact ⟨⟨by go_simp, by go_simp, by go_simp, by go_simp, by go_simp, by go_simp, by go_simp⟩, by go_simp, by go_simp, by go_simp, by go_simp⟩) : p := h
theorem nV {p : Prop} (h : p := by first | with_reducible exact dx dy | exact dy) : p := h
theorem nz {p : Prop} (h : p := by first | rfl | (refine congrArg (fun z => Ending.returned (Value.int IntKind.i64 z)) ?_; first | omega | (simp <;> omega))) : p := h
theorem oZ {p : Prop} (h : p := by first | with_reducible exact ⟨V8, V7, V6⟩ | exact ⟨by go_simp, by go_simp, by go_simp⟩) : p := h
theorem jk {p : Prop} (h : p := by first | with_reducible exact dx gf | exact gf) : p := h
theorem C6 {p : Prop} (h : p := by first | rfl | (refine congrArg (fun z => Ending.returned (Value.int IntKind.i64 z)) ?_; first | omega | (simp (disch := omega) only [IntWalk.i64_in]; done) | (simp (disch := omega) only [IntWalk.i64_in]; omega))) : p := h
theorem Mu {p : Prop} (h : p := by first | with_reducible exact ⟨⟨c0, c1, c2, c3, c4, c5, c6, c7, c8⟩, t0, t1, t2, t3, t4, t5, t6, t7, t8, t9, Df⟩ | exact ⟨⟨by go_simp, by go_simp, by go_simp, by go_simp, by go_simp, by go_simp, by go_simp, by go_simp, by go_simp⟩, by go_simp, by go_simp, by go_simp, by go_simp, by go_simp, by go_simp, by go_simp, by go_simp, by go_simp, by go_simp, by go_simp⟩) : p := h
theorem Mt {p : Prop} (h : p := by first | with_reducible exact ⟨q06, q26, ⟨x06, Zu, Xz⟩, y0⟩ | exact ⟨by go_simp, by go_simp, ⟨by go_simp, by go_simp, by go_simp⟩, by go_simp⟩) : p := h
theorem AY {p : Prop} (h : p := by show w.heap.size ≤ w.heap.size + 1 + 1 + 1; omega) : p := h
theorem C5 {p : Prop} (h : p := by first | with_reducible exact ⟨b0, b1, b2, b3, b4, b5, b6⟩ | exact ⟨by go_simp, by go_simp, by go_simp, by go_simp, by go_simp, by go_simp, by go_simp⟩) : p := h
theorem Ms {p : Prop} (h : p := by first | with_reducible exact ⟨kb7, Wd, Wc, Wb, Wa⟩ | exact ⟨by go_simp, by go_simp, by go_simp, by go_simp, by go_simp⟩) : p := h
theorem C3 {p : Prop} (h : p := by first | with_reducible exact ⟨k11, k8, kL, y0, y1, y2⟩ | exact ⟨by go_simp, by go_simp, by go_simp, by go_simp, by go_simp, by go_simp⟩) : p := h
theorem C1 {p : Prop} (h : p := by first | exact ⟨⟨by go_simp, by go_simp, by go_simp⟩, ⟨by go_simp, by go_simp, by go_simp⟩, by go_simp, by go_simp, by go_simp⟩) : p := h
theorem qZ {p : Prop} (h : p := by first | with_reducible exact dx kX | exact kX) : p := h
theorem PH {p : Prop} (h : p := by first | with_reducible exact ⟨⟨p0, p1⟩, x0, x1, x2⟩ | exact ⟨⟨by go_simp, by go_simp⟩, by go_simp, by go_simp, by go_simp⟩) : p := h
theorem AX {p : Prop} (h : p := by first | exact ⟨⟨by go_simp, by go_simp, by go_simp⟩, by go_simp, by go_simp, by go_simp⟩) : p := h
theorem si {p : Prop} (h : p := by first | with_reducible exact dx i7 | exact i7) : p := h
theorem PG {p : Prop} (h : p := by show w.heap.size ≤ w.heap.size + 1 + 1 + 1 + 1; omega) : p := h
end Go.Proofs.YtapjfhbonfehpaaGreatDoor
namespace Go.Proofs.YtapjfhbonfehpaaGreatDoor
structure W3 where
 v : Int
 r : Int
 f : Int
deriving DecidableEq
abbrev qg (x : W3) : Value := .agg #[.int .i64 x.v, .int .u32 x.r, .int .u32 x.f]
def W3.ok (x : W3) : Prop := -9223372036854775808 ≤ x.v ∧ x.v ≤ 9223372036854775807 ∧ 0 ≤ x.r ∧ x.r < 4294967296 ∧ 0 ≤ x.f ∧ x.f < 4294967296
def z3 : W3 := ⟨0, 0, 0⟩
def ig (x : W3) : List Value := [.int .i64 x.v, .int .u32 x.r, .int .u32 x.f]
end Go.Proofs.YtapjfhbonfehpaaGreatDoor
namespace Go.Proofs.YtapjfhbonfehpaaGreatDoor
open Go.RowKit
def aB (B : Nat) (cs : List Value) (w : World) : Prop := (∀ j u, cs[j]? = some u → w.cell? ⟨B, j, none⟩ = some u) ∧ (∀ o, w.frozen? ⟨B, o, none⟩ = false) ∧ B < w.heap.size
theorem aB.below {B : Nat} {cs : List Value} {w w' : World} (h : aB B cs w) (hb : Below w.heap.size w w') : aB B cs w' := by
 obtain ⟨h1, h2, h3⟩ := h;exact ⟨fun j u hu => (hb.cell (p := ⟨B, j, none⟩) h3).trans (h1 j u hu), fun o => (hb.frozen (p := ⟨B, o, none⟩) h3).trans (h2 o), Nat.lt_of_lt_of_le h3 hb.size⟩
theorem aB.far {B C o : Nat} {cs : List Value} {w : World} (h : aB B cs w) (hne : C ≠ B) (x : Value) : aB B cs (w.setCell ⟨C, o, none⟩ x) := by
 obtain ⟨h1, h2, h3⟩ := h;refine ⟨fun j u hu => ?_, fun o => by rw [World.frozen?_setCell]; exact h2 o, by simpa using h3⟩;rw [World.cell?_setCell_other _ _ _ _ (by intro e; injection e with e _; exact hne e)];exact h1 j u hu
theorem aB.store {B o : Nat} {cs : List Value} {w : World} (h : aB B cs w) (ho : o < cs.length) (x : Value) : aB B (cs.set o x) (w.setCell ⟨B, o, none⟩ x) := by
 obtain ⟨h1, h2, h3⟩ := h;refine ⟨fun j u hu => ?_, fun o => by rw [World.frozen?_setCell]; exact h2 o, by simpa using h3⟩;rw [List.getElem?_set] at hu;by_cases e : o = j
 ·subst e;rw [if_pos rfl, if_pos ho] at hu;injection hu with hu
  subst hu;exact World.cell?_setCell_same _ _ _ (h1 o _ (List.getElem?_eq_getElem ho))
 ·rw [if_neg e] at hu;rw [World.cell?_setCell_other _ _ _ _ (by intro e2; injection e2 with _ e2; exact e e2)];exact h1 j u hu
theorem aB.made (w : World) (cs : Array Value) (t : TypeId) : aB w.heap.size cs.toList (w.alloc (.cells cs t)) := by
 refine ⟨fun j u hu => ?_, fun o => World.frozen?_alloc_at _ _ _ _ rfl, by simp⟩;have hh : (w.alloc (.cells cs t)).heap[w.heap.size]? = some (.cells cs t (0, 0)) := heap_alloc_new w _;have hc : cs[j]? = some u := by rw [← Array.getElem?_toList]; exact hu
 simp only [World.cell?, hh];exact hc
theorem aB.made_at {w : World} {B : Nat} (hB : B = w.heap.size) (cs : Array Value) (t : TypeId) : aB B cs.toList (w.alloc (.cells cs t)) := by rw [hB]; exact aB.made w cs t
theorem aB.at {B : Nat} {cs : List Value} {w : World} (h : aB B cs w) {j : Nat} {u : Value} (hj : cs[j]? = some u) : w.cell? ⟨B, j, none⟩ = some u := h.1 j u hj
def lJ (b o : Nat) (u : Value) (w : World) : Prop := w.cell? ⟨b, o, none⟩ = some u ∧ b < w.heap.size
theorem lJ.below {b o : Nat} {u : Value} {w w' : World} (h : lJ b o u w) (hb : Below w.heap.size w w') : lJ b o u w' := ⟨(hb.cell (p := ⟨b, o, none⟩) h.2).trans h.1, Nat.lt_of_lt_of_le h.2 hb.size⟩
theorem lJ.of {b o : Nat} {u : Value} {w : World} (h : w.cell? ⟨b, o, none⟩ = some u) : lJ b o u w := ⟨h, cB h⟩
theorem aB.of2 {B : Nat} {a b : Value} {w : World} (h0 : w.cell? ⟨B, 0, none⟩ = some a) (h1 : w.cell? ⟨B, 1, none⟩ = some b) (hf : ∀ o, w.frozen? ⟨B, o, none⟩ = false) : aB B [a, b] w :=
 ⟨fun j u hu => by
  match j, hu with
  | 0, hu => injection hu with hu; subst hu; exact h0
  | 1, hu => injection hu with hu; subst hu; exact h1, hf, cB h0⟩
def HB (l : List (Nat × List Value)) (b o : Nat) (u : Value) (w : World) : Prop := (∀ p ∈ l, aB p.1 p.2 w) ∧ lJ b o u w
section
variable {l : List (Nat × List Value)} {b o : Nat} {u : Value} {w w' : World}
end
def gz (B n : Nat) (w : World) : Prop := ∃ cs : List Value, cs.length = n ∧ aB B cs w
theorem aB.some {B : Nat} {cs : List Value} {w : World} (h : aB B cs w) : gz B cs.length w := ⟨cs, rfl, h⟩
theorem gz.below {B n : Nat} {w w' : World} (h : gz B n w) (hb : Below w.heap.size w w') : gz B n w' := by
 obtain ⟨cs, h1, h2⟩ := h;exact ⟨cs, h1, h2.below hb⟩
theorem gz.at {B n j : Nat} {w : World} (h : gz B n w) (hj : j < n) : ∃ u, w.cell? ⟨B, j, none⟩ = some u := by
 obtain ⟨cs, h1, h2⟩ := h;exact ⟨_, h2.1 j _ (List.getElem?_eq_getElem oM)⟩
theorem gz.fz {B n : Nat} {w : World} (h : gz B n w) (o : Nat) : w.frozen? ⟨B, o, none⟩ = false := by
 obtain ⟨cs, h1, h2⟩ := h;exact h2.2.1 o
theorem gz.set {B n C o : Nat} {w : World} (h : gz B n w) (ho : C = B → o < n) (x : Value) : gz B n (w.setCell ⟨C, o, none⟩ x) := by
 obtain ⟨cs, h1, h2⟩ := h;by_cases e : C = B
 ·subst e;exact ⟨cs.set o x, by rw [List.length_set]; exact h1, h2.store (by rw [h1]; exact ho rfl) x⟩
 ·exact ⟨cs, h1, h2.far e x⟩
theorem lJ.far {b o C j : Nat} {u : Value} {w : World} (h : lJ b o u w) (hne : C ≠ b) (x : Value) : lJ b o u (w.setCell ⟨C, j, none⟩ x) := by
 refine ⟨?_, by simpa using h.2⟩;rw [World.cell?_setCell_other _ _ _ _ (by intro e; injection e with e _; exact hne e)];exact h.1
def HX (N : Nat) (cs : List Value) (b o : Nat) (u : Value) (l : List (Nat × Nat)) (w : World) : Prop := aB N cs w ∧ lJ b o u w ∧ ∀ p ∈ l, gz p.1 p.2 w
section
variable {N : Nat} {cs : List Value} {b o : Nat} {u : Value} {l : List (Nat × Nat)} {w w' : World}
theorem HX.below (h : HX N cs b o u l w) (hb : Below w.heap.size w w') : HX N cs b o u l w' := ⟨h.1.below hb, h.2.1.below hb, fun p hp => (h.2.2 p hp).below hb⟩
theorem jl : HX N cs b o u l w.drew = HX N cs b o u l w := rfl
theorem oK {P : Program} {md : Region.Mode} {ops : Array Oper} {Q : Exit → Act → World → Prop} {S : World → Prop} {fuel : Nat} {listed l' : Array Bool} {a a' : Act} {w : World} {K : Act → World → Prop} {S1 : Prop} (hK : Shut (∀ a w, S w → (S w → wpAnyH P md ops Q S fuel listed a w) → K a w)) (hs : S w) (h : S1 → wpAnyH P md ops Q S fuel l' a' w) (e : a = a' := by (try simp only [Act.put, pS]); exact rfl) (el : listed = l' := by (try simp only [pS]); exact rfl) (es : S w = S1 := by (try simp only [jl]); exact rfl) : K a w := hK.out a w hs (fun q => e ▸ el ▸ h (es.mp q))
theorem oS {P : Program} {md : Region.Mode} {ops : Array Oper} {Q : Exit → Act → World → Prop} {S : World → Prop} {fuel : Nat} {listed l' : Array Bool} {a a' : Act} {w : World} {K : Act → World → Prop} {S1 : Prop} (hK : Shut (∀ a w, S w → (S w → wpAnyH P md ops Q S fuel listed a w) → K a w)) (S' : World → Prop) (hS : ∀ w, S' w → S w) (hs : S' w) (h : S1 → wpAnyH P md ops Q S' fuel l' a' w) (e : a = a' := by (try simp only [Act.put, pS]); exact rfl) (el : listed = l' := by (try simp only [pS]); exact rfl) (es : S' w = S1 := by (try simp only [jl]); exact rfl) : K a w := fO hK hS hs (fun q => e ▸ el ▸ h (es.mp q))
theorem HX.push {B n : Nat} (h : HX N cs b o u l w) (hx : gz B n w) : HX N cs b o u ((B, n) :: l) w := ⟨h.1, h.2.1, fun p hp => by
 rcases List.mem_cons.1 hp with rfl | hp
 ·exact hx
 ·exact h.2.2 p hp⟩
theorem HX.pop {p : Nat × Nat} (h : HX N cs b o u (p :: l) w) : HX N cs b o u l w := ⟨h.1, h.2.1, fun q hq => h.2.2 q (List.mem_cons_of_mem _ hq)⟩
theorem oX {N : Nat} {cs : List Value} {b o : Nat} {u : Value} {l : List (Nat × Nat)} {P : Program} {md : Region.Mode} {ops : Array Oper} {Q : Exit → Act → World → Prop} {fuel : Nat} {listed l' : Array Bool} {a a' : Act} {w : World} {K : Act → World → Prop} {S1 : Prop} (hK : Shut (∀ a w, HX N cs b o u l w → (HX N cs b o u l w → wpAnyH P md ops Q (HX N cs b o u l) fuel listed a w) → K a w)) (B n : Nat) (hs : HX N cs b o u ((B, n) :: l) w) (h : S1 → wpAnyH P md ops Q (HX N cs b o u ((B, n) :: l)) fuel l' a' w) (e : a = a' := by (try simp only [Act.put, pS]); exact rfl) (el : listed = l' := by (try simp only [pS]); exact rfl) (es : HX N cs b o u ((B, n) :: l) w = S1 := by (try simp only [jl]); exact rfl) : K a w := oS hK (HX N cs b o u ((B, n) :: l)) (fun _ h => HX.pop h) hs h e el es
theorem HX.new_at {B n : Nat} {vs : Array Value} {t : TypeId} (h : HX N cs b o u l w) (hB : B = w.heap.size) (hn : vs.size = n) : HX N cs b o u ((B, n) :: l) (w.alloc (.cells vs t)) := by
 subst hB; subst hn;exact (h.below (Below.alloc (Below.refl _ _) (Nat.le_refl _) _)).push ⟨vs.toList, by simp, aB.made w vs t⟩
theorem HX.set {C j : Nat} (h : HX N cs b o u l w) (h1 : C ≠ N) (h2 : C ≠ b) (h3 : ∀ p ∈ l, C = p.1 → j < p.2) (x : Value) : HX N cs b o u l (w.setCell ⟨C, j, none⟩ x) := ⟨h.1.far h1 x, h.2.1.far h2 x, fun p hp => (h.2.2 p hp).set (h3 p hp) x⟩
theorem HX.box {B n : Nat} (h : HX N cs b o u l w) (hm : (B, n) ∈ l) : gz B n w := h.2.2 _ hm
theorem b2 {N : Nat} {cs : List Value} {b o : Nat} {u : Value} {l : List (Nat × Nat)} {w : World} (h : HX N cs b o u l w) (B : Nat) (hm : (B, 2) ∈ l := by simp) : gz B 2 w ∧ (∀ o, w.frozen? ⟨B, o, none⟩ = false) ∧ (∃ u, w.cell? ⟨B, 0, none⟩ = some u) ∧ ∃ u, w.cell? ⟨B, 1, none⟩ = some u := have q := h.box hm; ⟨q, q.fz, q.at (j := 0) oM, q.at (j := 1) oM⟩
theorem b3 {N : Nat} {cs : List Value} {b o : Nat} {u : Value} {l : List (Nat × Nat)} {w : World} (h : HX N cs b o u l w) (B : Nat) (hm : (B, 3) ∈ l := by simp) : gz B 3 w ∧ (∀ o, w.frozen? ⟨B, o, none⟩ = false) ∧ (∃ u, w.cell? ⟨B, 0, none⟩ = some u) ∧ (∃ u, w.cell? ⟨B, 1, none⟩ = some u) ∧ ∃ u, w.cell? ⟨B, 2, none⟩ = some u := have q := h.box hm; ⟨q, q.fz, q.at (j := 0) oM, q.at (j := 1) oM, q.at (j := 2) oM⟩
end
end Go.Proofs.YtapjfhbonfehpaaGreatDoor
namespace Go.Proofs.YtapjfhbonfehpaaGreatDoor
open Go
def waits (ops : Array Oper) : Nat → Nat → Nat → Bool
 | 0, _, _ => false
 | f + 1, i, j => match ops[i]? with
  | none => false
  | some o => o.after.toList.any (fun e => Region.binds .any e && (e.on == j || waits ops f e.on j))
def Closed (ops : Array Oper) (l : Array Bool) : Prop := ∀ i o, l.getD i false = true → ops[i]? = some o → ∀ e ∈ o.after, Region.binds .any e = true → l.getD e.on false = true
theorem Br {ops : Array Oper} {l : Array Bool} (hc : Closed ops l) : ∀ (f i j : Nat) (o : Oper), ops[i]? = some o → (∀ e ∈ o.after, Region.binds .any e = true → l.getD e.on false = true) → waits ops f i j = true → l.getD j false = true := by
 intro f
 induction f with
 | zero => intro i j o _ _ h; cases h
 | succ f ih =>
  intro i j o ho hall h;unfold waits at h;rw [ho] at h;simp only [List.any_eq_true, Bool.and_eq_true, Bool.or_eq_true, beq_iff_eq] at h;obtain ⟨e, he, hb, hj⟩ := h;have he' := Array.mem_toList_iff.1 he;have hl := hall e he' hb;rcases hj with rfl | hj
  ·exact hl
  ·have hon : ∃ o2, ops[e.on]? = some o2 := by
    cases f with
    | zero => cases hj
    | succ f =>
     unfold waits at hj;cases h2 : ops[e.on]? with
     | none => rw [h2] at hj; cases hj
     | some o2 => exact ⟨o2, rfl⟩
   obtain ⟨o2, ho2⟩ := hon;exact ih e.on j o2 ho2 (fun e2 h2 hb2 => hc e.on o2 hl ho2 e2 h2 hb2) hj
def splits (ops pre : Array Oper) : Bool :=
 (List.range ops.size).all fun i => match ops[i]? with
  | none => false
  | some o => if i < pre.size then o.after.toList.all (fun e => decide (e.on < i)) && o.guard.isNone else (List.range pre.size).all fun j => waits ops ops.size i j
def Behind (P : Program) (ops : Array Oper) (m k : Nat) (Q : Exit → Act → World → Prop) : Exit → Act → World → Prop
 | .normal, a, w => ∀ f, wpAny P .any ops Q (f + k) ((List.replicate m true ++ List.replicate k false).toArray) a w
 | e, a, w => Q e a w
variable {P : Program} {ops pre : Array Oper} {Q : Exit → Act → World → Prop}
theorem zh {o : Oper} {m k : Nat} {a : Act} {K K' : Act → World → Prop} {r : Result Next} (hK : ∀ a w, K a w → K' a w)
  (h : o.upon P a K (Behind P ops m k Q) r) : o.upon P a K' Q r := by
 cases r with
 | ok n w' =>
  cases n <;> simp only [Oper.upon] at h ⊢ <;>
   first
    | exact hK _ _ h
    | exact Calls.mono h (fun e w'' he => by cases e <;> first | exact hK _ _ he | exact he)
    | exact Rows.mono h (fun _ _ he => hK _ _ he)
 | halt x w' => cases x <;> simp only [Oper.upon] at h ⊢ <;> exact h
theorem yX {i m k : Nat} {o : Oper} {a : Act} {w : World} {K K' : Act → World → Prop} (hp : pre[i]? = some o) (ho : ops[i]? = some o) (hg : o.guard = none)
  (hK : ∀ a w, K a w → K' a w) (h : wpOp P pre (Behind P ops m k Q) i K a w) : wpOp P ops Q i K' a w := by
 unfold wpOp at *;have hw : ∀ y, Region.wanted o y = true := fun y => by unfold Region.wanted; rw [hg]
 simp only [hp, ho, hw, if_true] at h ⊢;rcases h with h | ⟨h1, h2⟩
 ·exact .inl (zh hK h)
 ·exact .inr ⟨h1, h2⟩
theorem kK (hs : splits ops pre = true) (hz : pre.size ≤ ops.size) {i : Nat} (hi : i < pre.size) : ∃ o, ops[i]? = some o ∧ (∀ e ∈ o.after, e.on < i) ∧ o.guard = none := by
 unfold splits at hs;rw [List.all_eq_true] at hs;have h := hs i (List.mem_range.2 oM);have ho : ops[i]? = some (ops[i]'(by omega)) := Array.getElem?_eq_getElem oM;rw [ho] at h;simp only [if_pos hi, Bool.and_eq_true, List.all_eq_true, decide_eq_true_eq, Option.isNone_iff_eq_none] at h;exact ⟨_, ho, fun e he => h.1 e (Array.mem_toList_iff.2 he), h.2⟩
theorem zq (hs : splits ops pre = true) {i j : Nat} (hi : i < ops.size) (hi2 : pre.size ≤ i) (hj : j < pre.size) : waits ops ops.size i j = true := by
 unfold splits at hs;rw [List.all_eq_true] at hs;have h := hs i (List.mem_range.2 hi);rw [Array.getElem?_eq_getElem hi] at h;simp only [if_neg (show ¬ i < pre.size by omega), List.all_eq_true, List.mem_range] at h;exact h j hj
theorem mY {l : List Bool} {k i : Nat} (d : Bool) (hi : i < l.length) : ((l ++ List.replicate k false).toArray).getD i d = l.toArray.getD i d := by
 simp [Array.getD, hi, List.getElem_append_left hi];intro h; omega
theorem JR (hs : splits ops pre = true) (hz : pre.size ≤ ops.size) (hpre : ∀ i, i < pre.size → pre[i]? = ops[i]?) {listed : Array Bool}
  (h : Region.ready .any pre listed = []) : ∀ i, i < pre.size → listed.getD i true = true := by
 intro i
 induction i using Nat.strongRecOn with
 | ind i ih =>
  intro hi;cases hb : listed.getD i true with
  | true => rfl
  | false =>
   exfalso;obtain ⟨o, ho, LO, -⟩ := kK hs hz hi;have : i ∈ Region.ready .any pre listed := by
    refine mem_ready.2 ⟨hb, o, (hpre i hi).trans ho, fun e he _ => ?_⟩;have h1 := ih e.on (LO e he) (by have := LO e he; omega);have h0 : e.on < i := LO e he;have hsz : i < listed.size := by
     rcases Nat.lt_or_ge i listed.size with h' | h'
     ·exact h'
     ·simp [Array.getD, Nat.not_lt.2 h'] at hb
    simp only [Array.getD, show e.on < listed.size by omega, dif_pos] at h1 ⊢;exact h1
   rw [h] at this;cases this
theorem xw {k : Nat} (hs : splits ops pre = true) (hz : ops.size = pre.size + k) (hpre : ∀ i, i < pre.size → pre[i]? = ops[i]?) :
  ∀ (fuel : Nat) (l : List Bool) (a : Act) (w : World), l.length = pre.size → Closed ops (l ++ List.replicate k false).toArray → wpAny P .any pre (Behind P ops pre.size k Q) fuel l.toArray a w →
   wpAny P .any ops Q (fuel + k) ((l ++ List.replicate k false).toArray) a w := by
 have hdone : ∀ (l : List Bool), l.length = pre.size → Region.ready .any pre l.toArray = [] → l = List.replicate pre.size true := fun l hl hr => by
  refine List.ext_getElem (by simp [hl]) fun i h1 h2 => ?_;have h3 := JR hs oM hpre hr i oM;simp only [Array.getD, List.size_toArray, h1, dif_pos] at h3;simpa using h3
 intro fuel
 induction fuel with
 | zero =>
  intro l a w hl hc h;obtain ⟨h1, h2⟩ := h;rw [hdone l hl h1];exact h2 0
 | succ fuel ih =>
  intro l a w hl hc h;obtain ⟨h1, h2⟩ := h;by_cases hr : Region.ready .any pre l.toArray = []
  ·have := h1 hr;rw [hdone l hl hr];exact this (fuel + 1)
  ·-- something of the first part is still to come: so nothing of the rest may come up
   obtain ⟨i0, hi0⟩ := List.exists_mem_of_ne_nil _ hr;obtain ⟨Oq, o0, ho0, -⟩ := mem_ready.1 hi0;have OE : i0 < pre.size := (Array.getElem?_eq_some_iff.1 ho0).1;rw [show fuel + 1 + k = (fuel + k) + 1 by omega];have SE : ((l ++ List.replicate k false).toArray).getD i0 false = false := by
    have := mY (k := k) false (show i0 < l.length by omega);rw [this];simp only [Array.getD, List.size_toArray, show i0 < l.length by omega, dif_pos] at Oq ⊢;exact Oq
   have low : ∀ i, i ∈ Region.ready .any ops (l ++ List.replicate k false).toArray → i < pre.size ∧ i ∈ Region.ready .any pre l.toArray := fun i hi => by
    obtain ⟨hun, o, ho, hall⟩ := mem_ready.1 hi;have his : i < ops.size := (Array.getElem?_eq_some_iff.1 ho).1;by_cases OD : i < pre.size
    ·refine ⟨OD, mem_ready.2 ⟨?_, o, (hpre i OD).trans ho, fun e he hb => ?_⟩⟩
     ·rw [mY true oM] at hun; exact hun
     ·have h5 := hall e he hb;obtain ⟨o', Fa, LO, -⟩ := kK hs oM OD;rw [ho] at Fa;injection Fa with Fa
      subst Fa;rw [mY false (by have := LO e he; omega)] at h5;exact h5
    ·exfalso;have h5 := Br hc ops.size i i0 o ho (fun e he hb => hall e he hb) (zq hs his oM OE);rw [SE] at h5;cases h5
   refine ⟨fun h0 => ?_, fun i hi => ?_⟩
   ·-- it may come up in the whole too
    exfalso;obtain ⟨-, o1, ho1, TR⟩ := mem_ready.1 hi0;have Ta := (hpre i0 OE).symm.trans ho1;obtain ⟨o', Fa, LO, -⟩ := kK hs oM OE;rw [Ta] at Fa;injection Fa with Fa
    subst Fa;have : i0 ∈ Region.ready .any ops (l ++ List.replicate k false).toArray := by
     refine mem_ready.2 ⟨by rw [mY true oM]; exact Oq, o1, Ta, fun e he hb => ?_⟩;rw [mY false (by have := LO e he; omega)];exact TR e he hb
    rw [h0] at this;cases this
   ·obtain ⟨OD, hir⟩ := low i hi;obtain ⟨o', Fa, LO, hg⟩ := kK hs oM OD;refine yX ((hpre i OD).trans Fa) Fa hg (fun a' w' h' => ?_) (h2 i hir);have e1 : (l.toArray).setIfInBounds i true = (l.set i true).toArray := (by simp);have e2 : ((l ++ List.replicate k false).toArray).setIfInBounds i true = (l.set i true ++ List.replicate k false).toArray := by
     simp [List.set_append_left i true (show i < l.length by omega)]
    rw [e1] at h';rw [e2];refine ih _ _ _ (by simpa using hl) (fun j oj hj hoj e he hb => ?_) h';rw [← e2] at hj ⊢;obtain ⟨-, oi, hoi, hall⟩ := mem_ready.1 hir;have hmono : ∀ q, ((l ++ List.replicate k false).toArray).getD q false = true → (((l ++ List.replicate k false).toArray).setIfInBounds i true).getD q false = true := fun q hq => by
     by_cases hqi : i = q
     ·subst hqi;have : i < ((l ++ List.replicate k false).toArray).size := (by simp; omega);simp only [Array.getD, Array.size_setIfInBounds, this, dif_pos];simp
     ·rw [getD_set_ne false hqi]; exact hq
    by_cases hji : j = i
    ·subst hji;rw [hpre j OD] at hoi;rw [hoi] at hoj;injection hoj with hoj
     subst hoj;have h5 := hall e he hb;rw [Fa] at hoi;injection hoi with hoi
     subst hoi;refine hmono _ ?_;rw [mY false (by have := LO e he; omega)];exact h5
    ·rw [getD_set_ne false (Ne.symm hji)] at hj;exact hmono _ (hc j oj hj hoj e he hb)
theorem dt {id : Nat} {a : Act} {w : World} (pre : List Oper) (m k : Nat) (S : World → Prop) (hm : P.follows .mixedOrders = true) (hp : ops.toList.take m = pre) (hl : pre.length = m) (hz : ops.size = m + k) (hs : splits ops pre.toArray = true) (hS : S w.drew)
  (h : S w.drew → wpAnyH P .any pre.toArray (Behind P ops m k Q) S m (Array.replicate m false) a w.drew) : (Code.region id ops true).wp P Q a w := by
 refine wp_region_any hm ?_;have h1 := wpAny_of_held _ _ _ _ (h hS);have hsz : pre.toArray.size = m := by simpa using hl
 have hpre : ∀ i, i < pre.toArray.size → pre.toArray[i]? = ops[i]? := fun i hi => by
  rw [List.getElem?_toArray, ← hp, List.getElem?_take, if_pos oM, Array.getElem?_toList]
 have h2 := xw (Q := Q) (k := k) hs oM hpre m (List.replicate m false) a w.drew (by simp [hsz]) (fun i o hi => by rw [List.replicate_append_replicate] at hi; exfalso; simp [Array.getD] at hi) (by rw [List.toArray_replicate, hsz]; exact h1);rw [List.replicate_append_replicate, List.toArray_replicate, ← hz] at h2;exact h2
end Go.Proofs.YtapjfhbonfehpaaGreatDoor
namespace Go.Proofs.YtapjfhbonfehpaaGreatDoor
open Go.RowKit
theorem bJ {w : World} {base size n : Nat} {e : TypeId} {v : Value} {xs : List Value} (h : w.ownsRow base e size v n xs) (hn : 0 < n) : ∃ g cap, v = .slice (some ⟨g, 0, none⟩) n cap ∧ n ≤ cap ∧ base ≤ g ∧ Rd w w.heap.size size (some ⟨g, 0, none⟩) n xs := by
 obtain ⟨A, cap, e1, hr⟩ := Rd.of_own h;obtain ⟨_, h2⟩ := h;rcases h2 with ⟨_, rfl⟩ | ⟨g, cap', cur, rfl, hg, _, hc, _⟩
 ·omega
 ·injection e1 with e1 _ e3
  subst e1;exact ⟨g, cap', rfl, hc, hg, hr⟩
def bm (C n : Nat) (A : Option Addr) : Prop := 0 < n → ∀ b o, A = some ⟨b, o, none⟩ → b ≠ C
theorem bm.new {w : World} {size C n : Nat} {A : Option Addr} {xs : List Value} (h : Rd w w.heap.size size A n xs) (hC : w.heap.size ≤ C) : bm C n A := by
 intro hn b o e;obtain ⟨b', o', e', hb, _⟩ := h.2 hn;rw [e] at e';injection e' with e'
 injection e' with e1 _
 omega
theorem bm.at {C n g : Nat} (h : g ≠ C) : bm C n (some ⟨g, 0, none⟩) := by
 intro _ b o e;injection e with e
 injection e with e1 _
 omega
theorem Rd.set_off {w : World} {B size n C o : Nat} {A : Option Addr} {xs : List Value} (h : Rd w B size A n xs) (hoff : bm C n A) (x : Value) : Rd (w.setCell ⟨C, o, none⟩ x) B size A n xs := by
 refine ⟨h.1, fun hn => ?_⟩;obtain ⟨b, off, e, hb, hc⟩ := h.2 hn;refine ⟨b, off, e, hb, fun j u hu => ?_⟩;have hne := hoff hn b off e;rw [World.cell?_setCell_other _ _ _ _ (by intro e2; injection e2 with e2 _; exact hne (by first | exact e2 | exact e2.symm))];exact hc j u hu
end Go.Proofs.YtapjfhbonfehpaaGreatDoor
