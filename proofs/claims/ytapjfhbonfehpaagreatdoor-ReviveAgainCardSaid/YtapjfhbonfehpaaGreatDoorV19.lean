/- Maps of counts with integer keys: their readings, Clone of those with locations for keys. -/
import Derived.Test.YtapjfhbonfehpaaGreatDoorProg
import Derived.WalkSpells
import Derived.WalkLawsBesides
import Derived.Shelf.SlMaps.Clone
import Derived.Test.YtapjfhbonfehpaaGreatDoorV04
set_option linter.unusedSimpArgs false
set_option linter.unusedVariables false
set_option maxRecDepth 100000
set_option maxHeartbeats 40000000
namespace Go.Proofs.YtapjfhbonfehpaaGreatDoor
open Go.RowKit Go.Maps
theorem dO : Keyed Tryz.prog 3 := int_keyed Tryz.underlying3
theorem gB : Keyed Tryz.prog 52 := int_keyed Tryz.underlying52
theorem pk (w : World) : (zeroValue 3).run Tryz.prog w = .ok (.int .i64 0) w := by kernel_rfl
def A1 (w : World) (k : TypeId) (v : Option Nat) (n : Nat) (f : Int → Int) : Prop :=
 (v = none ∧ ∀ z, f z = 0) ∨
 ∃ (b : Nat) (D : DataW Unit), v = some b ∧ w.ownsMap Tryz.prog k (plainElem Tryz.prog 3) b n D ∧ IsMap D ∧ ∀ z, (Lit.int .i64 z).wf = true → D.atKey (.int .i64 z) (.lit (.int .i64 0)) = .lit (.int .i64 (f z))
section
variable {w w' : World} {k : TypeId} {v : Option Nat} {n n' : Nat} {f : Int → Int}
theorem A1.below (h : A1 w k v n f) (hb : Below w.heap.size w w') : A1 w' k v n f := by
 rcases h with h | ⟨b, D, rfl, hown, hi, hf⟩
 ·exact .inl h
 ·exact .inr ⟨b, D, rfl, hown.kept (aG hb none) sM, hi, hf⟩
end
theorem nU {w : World} {a : Addr} {u : Value} (h : w.cell? a = some u) : ∃ c t fr, w.heap[a.block]? = some (.cells c t fr) := by
 unfold World.cell? at h;split at h
 ·rename_i c t fr hb;exact ⟨c, t, fr, hb⟩
 ·cases h
theorem k5 (w : World) (t : TypeId) (b : Nat) (es : Array MapEntry) (clock : Nat) (hb : w.heap[b]? = some (.map es clock)) :
  Sem.run Tryz.prog (callFunc 114 #[.iface t (.map (some b))]) w = .ok (.value (.iface t (.map (some w.heap.size)))) (w.alloc (.map es clock)) := by
 rw [run_callFunc_extern Tryz.func114 kR kR kR (e := Extern.MapsClone.clone) kR, run_maps_clone_sl w t hb];rfl
theorem js (w : World) (t xT k e : TypeId) (v : Value) (h : Tryz.prog.underlying t = some (.map k e)) : (Instr.typeAssert (.iface t v) xT t false).run Tryz.prog w = .ok v w := run_typeAssert_map_sl w t xT k e v h
theorem iL {a b : Int} (h : (DataW.lit (.int .i64 a) : DataW Unit) = .lit (.int .i64 b)) : a = b := by
 injection h with h
 injection h
def upd (f : Int → Int) (z y : Int) : Int → Int := fun x => if x = z then y else f x
theorem upd_same (f : Int → Int) (z y : Int) : upd f z y z = y := if_pos rfl
theorem Eh {f : Int → Int} {z y x : Int} (h : x ≠ z) : upd f z y x = f x := if_neg h
theorem kt {D : DataW Unit} {f : Int → Int} (hi : IsMap D) (hf : ∀ z, (Lit.int .i64 z).wf = true → D.atKey (.int .i64 z) (.lit (.int .i64 0)) = .lit (.int .i64 (f z))) (z y : Int) (_wz : (Lit.int .i64 z).wf = true) :
  ∀ x, (Lit.int .i64 x).wf = true → (D.put (.int .i64 z) (.lit (.int .i64 y))).atKey (.int .i64 x) (.lit (.int .i64 0)) = .lit (.int .i64 (upd f z y x)) := by
 intro x wx;by_cases hx : x = z
 ·subst hx;rw [atKey_put_same hi (by trivial), upd_same]
 ·rw [atKey_put_other (by intro h; injection h with _ h; exact hx h), Eh hx];exact hf x wx
theorem A1.alloc {w : World} {k : TypeId} {v : Option Nat} {n : Nat} {f : Int → Int} (h : A1 w k v n f) (o : Obj) : A1 (w.alloc o) k v n f := h.below ((Below.refl _ _).alloc (Nat.le_refl _) o)
theorem zR {w : World} {k t : TypeId} {v : Option Nat} {n : Nat} {f : Int → Int} (h : A1 w k v n f) (hk : Tryz.prog.underlying k = some (.int .i64)) (ht : Tryz.prog.underlying t = some (.map k 3)) {z : Int} (wz : (Lit.int .i64 z).wf = true) :
  (Instr.lookup t (.map v) (.int .i64 z) false).run Tryz.prog w = .ok (.int .i64 (f z)) w := by
 rcases h with ⟨rfl, hf⟩ | ⟨b, D, rfl, hown, hi, hf⟩
 ·rw [hf z];exact Maps.look_nil false (int_keyed hk) ht (pk w) (keyOf_int_mk hk wz)
 ·obtain ⟨c, hrun, hat, _⟩ := hown.lookup_int (int_keyed hk) ht Tryz.underlying3 (pk w) (keyOf_int_mk hk wz);rw [hrun, iL (hat.symm.trans (hf z wz))]
theorem bz {w w' : World} {row : Option Nat} (hg : w.grownBy w' row) {b : Nat} (hb : b < w.heap.size) (hne : some b ≠ row) : (∀ o, w'.cell? ⟨b, o, none⟩ = w.cell? ⟨b, o, none⟩) ∧ (∀ o, w'.frozen? ⟨b, o, none⟩ = w.frozen? ⟨b, o, none⟩) :=
 ⟨fun o => World.cell?_of_block (hg.block b hb hne), fun o => World.frozen?_of_block (hg.block b hb hne)⟩
def jU (d : DataW Unit) : Bool := match d with
 | .lit (.int .i64 v) => decide (1 ≤ v)
 | _ => false
def jf (L : Nat) (k : Lit) : Bool := match k with
 | .int .i64 x => decide (0 ≤ x) && decide (x < (L : Int))
 | _ => false
def oY (L : Nat) (p : Lit × DataW Unit) : Bool := !(jf L p.1 && jU p.2)
theorem uz {L : Nat} {p : Lit × DataW Unit} (h : oY L p = false) : ∃ x : Int, p.1 = .int .i64 x ∧ 0 ≤ x ∧ x < (L : Int) := by
 obtain ⟨k, d⟩ := p;unfold oY jf at h;simp only [Bool.not_eq_false', Bool.and_eq_true] at h;obtain ⟨h, _⟩ := h;split at h
 ·rename_i x;simp at h;exact ⟨x, rfl, h.1, h.2⟩
 ·cases h
theorem Al {L : Nat} {p : Lit × DataW Unit} (h : oY L p = false) : jU p.2 = true := by
 unfold oY at h;simp only [Bool.not_eq_false', Bool.and_eq_true] at h;exact h.2
theorem jT {v : Int} (h : 1 ≤ v) : jU (.lit (.int .i64 v)) = true := by simp [jU, h]
theorem Ap {v : Int} (h : jU (.lit (.int .i64 v)) = true) : 1 ≤ v := by simpa [jU] using h
theorem DR {L : Nat} {x : Int} (d : DataW Unit) (hd : jU d = true) (h0 : 0 ≤ x) (h1 : x < (L : Int)) : oY L (.int .i64 x, d) = false := by simp [oY, jf, h0, h1, hd]
def eU (D : DataW Unit) (L : Nat) : Prop := ∃ es, D = .map es ∧ es.any (oY L) = false
theorem eU.empty (L : Nat) : eU (.map []) L := ⟨[], rfl, rfl⟩
theorem eU.isMap {D : DataW Unit} {L : Nat} (h : eU D L) : IsMap D := let ⟨es, e, _⟩ := h; ⟨es, e⟩
theorem vR {α : Type} {f g : α → Bool} {l : List α} (h : l.any f = false) : (l.filter g).any f = false := by
 rw [List.any_eq_false] at h ⊢;exact fun x hx => h x (List.mem_filter.1 hx).1
theorem eU.put {D : DataW Unit} {L : Nat} (h : eU D L) {x : Int} (h0 : 0 ≤ x) (h1 : x < (L : Int)) (d : DataW Unit) (hd : jU d = true) : eU (D.put (.int .i64 x) d) L := by
 obtain ⟨es, rfl, he⟩ := h;refine ⟨_, rfl, ?_⟩;rw [any_insert, DR d hd h0 h1, vR he];rfl
theorem eU.has {D : DataW Unit} {L : Nat} (h : eU D L) {kl : Lit} (hk : Maps.has D kl = true) : ∃ x : Int, kl = .int .i64 x ∧ 0 ≤ x ∧ x < (L : Int) := by
 obtain ⟨es, rfl, he⟩ := h;rw [has_eq, List.any_eq_true] at hk;obtain ⟨p, hp, hs⟩ := hk;obtain ⟨x, e, h0, h1⟩ := uz (by simpa using List.any_eq_false.1 he p hp);exact ⟨x, by rw [← WideAt.sameKey_eq hs, e], h0, h1⟩
theorem eU.pos {D : DataW Unit} {L : Nat} (h : eU D L) {x v : Int} (hk : Maps.has D (.int .i64 x) = true) (ha : D.atKey (.int .i64 x) (.lit (.int .i64 0)) = .lit (.int .i64 v)) : 1 ≤ v := by
 obtain ⟨es, rfl, he⟩ := h;unfold DataW.atKey at ha;simp only at ha;cases hf : es.find? (fun p => p.1.sameKey (.int .i64 x)) with
 | none =>
  rw [has_eq, List.any_eq_true] at hk;obtain ⟨p, hp, hs⟩ := hk;exact absurd hs (by have := List.find?_eq_none.1 hf p hp; simpa using this)
 | some p =>
  rw [hf] at ha;simp only at ha;have q := Al (L := L) (p := p) (by simpa using List.any_eq_false.1 he p (List.mem_of_find?_eq_some hf));rw [ha] at q;exact Ap q
theorem size_le : ∀ (L : Nat) {D : DataW Unit}, Tidy D → eU D L → Maps.size D ≤ L
 | 0, D, _, h => by
  obtain ⟨es, rfl, he⟩ := h;cases es with
  | nil => exact Nat.le_refl _
  | cons p l =>
   obtain ⟨x, _, h0, h1⟩ := uz (L := 0) (p := p) (by rw [List.any_cons, Bool.or_eq_false_iff] at he; exact he.1);omega
 | L + 1, D, ht, h => by
  have hd := size_del (k := .int .i64 (L : Int)) ht;have hk : eU (D.del (.int .i64 (L : Int))) L := by
   obtain ⟨es, rfl, he⟩ := h;refine ⟨_, rfl, ?_⟩;rw [List.any_eq_false];intro p hp;obtain ⟨hp1, hp2⟩ := List.mem_filter.1 hp;obtain ⟨x, e, h0, h1⟩ := uz (L := L + 1) (p := p) (by simpa using List.any_eq_false.1 he p hp1);rw [e] at hp2;have hne : x ≠ (L : Int) := by
    rintro rfl;simp [Lit.sameKey] at hp2
   obtain ⟨k, d⟩ := p;have e' : k = .int .i64 x := e;subst e';rw [DR d (Al (L := L + 1) (p := (.int .i64 x, d)) (by simpa using List.any_eq_false.1 he _ hp1)) h0 oM];decide
  have := size_le L (ht.del (.int .i64 (L : Int))) hk;split at hd <;> omega
theorem sw {w : World} {k e : TypeId} {b n L : Nat} {D : DataW Unit} (h : w.ownsMap Tryz.prog k (plainElem Tryz.prog e) b n D) (K : Keyed Tryz.prog k) (hk : eU D L) : w.ownsMap Tryz.prog k (plainElem Tryz.prog e) b L D := by
 have ht := h.tidy K;have hs := size_le L ht hk;obtain ⟨es, clock, hb, F, _, rfl⟩ := h;refine ⟨es, clock, hb, F, ?_, rfl⟩;rw [size_eq, length_sorted, List.length_map] at hs;simpa using hs
structure eG where
 v : Option Nat
 f : Int → Int
def eG.R (L : Nat) (w : World) (a : eG) : Prop := (∀ z, 0 ≤ a.f z ∧ (z < 0 ∨ (L : Int) ≤ z → a.f z = 0)) ∧ ((a.v = none ∧ ∀ z, a.f z = 0) ∨ ∃ (b : Nat) (D : DataW Unit), a.v = some b ∧ w.ownsMap Tryz.prog 52 (plainElem Tryz.prog 3) b L D ∧ eU D L ∧ (∀ z, (Lit.int .i64 z).wf = true → D.atKey (.int .i64 z) (.lit (.int .i64 0)) = .lit (.int .i64 (a.f z))) ∧ ∃ z, 0 < a.f z)
theorem eG.R.mapF {L : Nat} {w : World} {a : eG} (h : a.R L w) : A1 w 52 a.v L a.f := by
 rcases h.2 with ⟨e, hf⟩ | ⟨b, D, e, h1, h2, h3, _⟩
 ·exact .inl ⟨e, hf⟩
 ·exact .inr ⟨b, D, e, h1, h2.isMap, h3⟩
theorem eG.R.below {L : Nat} {w w' : World} {a : eG} (h : a.R L w) (hb : Below w.heap.size w w') : a.R L w' := by
 refine ⟨h.1, ?_⟩;rcases h.2 with h | ⟨b, D, e, h1, h2⟩
 ·exact .inl h
 ·exact .inr ⟨b, D, e, h1.kept (aG hb none) sM, h2⟩
theorem eG.R.setCell {L : Nat} {w : World} {a : eG} (h : a.R L w) {p : Addr} {u : Value} (hc : w.cell? p = some u) (x : Value) : a.R L (w.setCell p x) := by
 refine ⟨h.1, ?_⟩;rcases h.2 with h | ⟨b, D, e, h1, h2⟩
 ·exact .inl h
 ·refine .inr ⟨b, D, e, h1.setCell ?_ x, h2⟩;rintro rfl;obtain ⟨c, t, fr, hb⟩ := nU hc;obtain ⟨es, clock, hb', _⟩ := h1;rw [hb] at hb';cases hb'
theorem eG.R.nil (L : Nat) (w : World) : eG.R L w ⟨none, fun _ => 0⟩ := ⟨fun _ => ⟨Int.le_refl _, fun _ => rfl⟩, .inl ⟨rfl, fun _ => rfl⟩⟩
theorem xo {n b : Nat} {D : DataW Unit} (w : World) (hown : w.ownsMap Tryz.prog 52 (plainElem Tryz.prog 3) b n D) :
  Calls Tryz.prog 127 #[.map (some b)] w fun e w' => e = .returned (.map (some w.heap.size)) ∧ w'.ownsMap Tryz.prog 52 (plainElem Tryz.prog 3) w.heap.size n D ∧ w.heap.size < w'.heap.size ∧ Below w.heap.size w w' := by
 have hq := fun (w : World) (r : Option Nat) => run_eql_map_nil (P := Tryz.prog) w _ _ _ r Tryz.underlying169;obtain ⟨es, clock, hb, F, hs, hD⟩ := hown;have hta := fun (W : World) (v : Value) => js W 169 20 _ _ v Tryz.underlying169;go_enter Tryz.func127, Tryz.ntmps127
 go_wp2
 rw [k5 w 169 b es clock hb];(try simp only [Result.andThen]);rw [Oper.upon_value]
 go_wp2
 go_ret;exact ⟨rfl, ⟨es, clock, (MapKept.heap_alloc w _).1, F, hs, hD⟩, by simp, (Below.refl _ _).alloc (Nat.le_refl _) _⟩
theorem FM (w : World) : Calls Tryz.prog 127 #[.map none] w fun e w' => e = .returned (.map none) ∧ w' = w := by
 have hq := fun (w : World) (r : Option Nat) => run_eql_map_nil (P := Tryz.prog) w _ _ _ r Tryz.underlying169;go_enter Tryz.func127, Tryz.ntmps127
 go_wp2
 go_ret;exact ⟨rfl, rfl⟩
theorem bq (W : World) (cs : Array Value) (t : TypeId) {b j : Nat} {u : Value} (hb : b = W.heap.size) (hu : cs.toList[j]? = some u) : (W.alloc (.cells cs t)).cell? ((⟨b, 0, none⟩ : Addr).add j) = some u := by
 subst hb;have h : (⟨W.heap.size, 0, none⟩ : Addr).add j = ⟨W.heap.size, j, none⟩ := by unfold Addr.add; simp only [Nat.zero_add]; split <;> simp_all
 rw [h];have hh : (W.alloc (.cells cs t)).heap[W.heap.size]? = some (.cells cs t (0, 0)) := heap_alloc_new W _;have hc : cs[j]? = some u := by rw [← Array.getElem?_toList]; exact hu
 simp only [World.cell?, hh];exact hc
structure io where
 x : W3
 t : Int
 a : eG
def vB (m : io) : List Value := [.int .i64 m.x.v, .int .u32 m.x.r, .int .u32 m.x.f, .int .i64 m.t, .map m.a.v]
theorem G9 (m : io) : (vB m).length = 5 := rfl
structure br where
 A : Option Addr
 cap : Nat
 l : List io
def br.R (L : Nat) (w : World) (h : br) : Prop := h.l.length ≤ h.cap ∧ (h.A = none → h.l.length = 0) ∧ Rd w w.heap.size 5 h.A h.l.length (h.l.flatMap vB) ∧ ∀ m ∈ h.l, m.a.R L w
theorem br.R.below {L : Nat} {w w' : World} {h : br} (hr : h.R L w) (hb : Below w.heap.size w w') : h.R L w' :=
 ⟨hr.1, hr.2.1, (hr.2.2.1.below hb).more hb.size, fun m hm => (hr.2.2.2 m hm).below hb⟩
structure aS where
 pA : Option Addr
 pc : Nat
 hs : List br
 vA : Option Addr
 vc : Nat
 vs : List eG
def bK (h : br) : Value := .slice h.A h.l.length h.cap
def ze (a : eG) : Value := .map a.v
def aS.R (w : World) (m : aS) : Prop := (m.hs.length ≤ m.pc ∧ (m.pA = none → m.hs.length = 0) ∧ Rd w w.heap.size 1 m.pA m.hs.length (m.hs.map bK) ∧ ∀ h ∈ m.hs, h.R m.hs.length w) ∧ (m.vs.length ≤ m.vc ∧ (m.vA = none → m.vs.length = 0) ∧ Rd w w.heap.size 1 m.vA m.vs.length (m.vs.map ze) ∧ ∀ a ∈ m.vs, a.R m.hs.length w)
theorem aS.R.below {w w' : World} {m : aS} (h : m.R w) (hb : Below w.heap.size w w') : m.R w' :=
 ⟨⟨h.1.1, h.1.2.1, (h.1.2.2.1.below hb).more hb.size, fun x hx => (h.1.2.2.2 x hx).below hb⟩, ⟨h.2.1, h.2.2.1, (h.2.2.2.1.below hb).more hb.size, fun x hx => (h.2.2.2.2 x hx).below hb⟩⟩
theorem Rd.one {α : Type} {w : World} {B n : Nat} {A : Option Addr} {g : α → Value} {l : List α} (h : Rd w B 1 A n (l.map g)) {k : Nat} {a : α} (hk : k < n) (ha : l[k]? = some a) : ∃ b off, A = some ⟨b, off, none⟩ ∧ b < B ∧ w.cell? ⟨b, off + k, none⟩ = some (g a) := by
 obtain ⟨b, off, e, hB, hc⟩ := h.2 oM;exact ⟨b, off, e, hB, hc k _ (by rw [List.getElem?_map, ha]; rfl)⟩
theorem oN {L : Nat} {k : Lit} (h : jf L k = true) : ∃ x : Int, k = .int .i64 x ∧ 0 ≤ x ∧ x < (L : Int) := by
 unfold jf at h;split at h
 ·rename_i x;simp at h;exact ⟨x, rfl, h.1, h.2⟩
 ·cases h
theorem uA {L : Nat} {x : Int} (h0 : 0 ≤ x) (h1 : x < (L : Int)) : jf L (.int .i64 x) = true := by simp [jf, h0, h1]
def eO (D : DataW Unit) (L : Nat) : Prop := ∃ es, D = .map es ∧ es.all (fun p => jf L p.1) = true
theorem eO.empty (L : Nat) : eO (.map []) L := ⟨[], rfl, rfl⟩
theorem eO.isMap {D : DataW Unit} {L : Nat} (h : eO D L) : IsMap D := let ⟨es, e, _⟩ := h; ⟨es, e⟩
theorem uP {α : Type} {f g : α → Bool} {l : List α} (h : l.all f = true) : (l.filter g).all f = true := by
 rw [List.all_eq_true] at h ⊢;exact fun x hx => h x (List.mem_filter.1 hx).1
theorem eO.put {D : DataW Unit} {L : Nat} (h : eO D L) {x : Int} (h0 : 0 ≤ x) (h1 : x < (L : Int)) (d : DataW Unit) : eO (D.put (.int .i64 x) d) L := by
 obtain ⟨es, rfl, he⟩ := h;refine ⟨_, rfl, ?_⟩;have q := any_insert (f := fun p : Lit × DataW Unit => !jf L p.1) (x := (.int .i64 x, d)) (l := es.filter fun p => !p.1.sameKey (.int .i64 x));rw [List.all_eq_not_any_not, Bool.not_eq_true'];refine q.trans ?_;rw [uA h0 h1];have := uP (g := fun p => !p.1.sameKey (.int .i64 x)) he;rw [List.all_eq_not_any_not, Bool.not_eq_true'] at this;simpa using this
theorem eO.del {D : DataW Unit} {L : Nat} (h : eO D L) (k : Lit) : eO (D.del k) L := by
 obtain ⟨es, rfl, he⟩ := h;exact ⟨_, rfl, uP he⟩
theorem eO.has {D : DataW Unit} {L : Nat} (h : eO D L) {kl : Lit} (hk : Maps.has D kl = true) : ∃ x : Int, kl = .int .i64 x ∧ 0 ≤ x ∧ x < (L : Int) := by
 obtain ⟨es, rfl, he⟩ := h;rw [has_eq, List.any_eq_true] at hk;obtain ⟨p, hp, hs⟩ := hk;obtain ⟨x, e, h0, h1⟩ := oN (List.all_eq_true.1 he p hp);exact ⟨x, by rw [← WideAt.sameKey_eq hs, e], h0, h1⟩
theorem zu : ∀ (L : Nat) {D : DataW Unit}, Tidy D → eO D L → Maps.size D ≤ L
 | 0, D, _, h => by
  obtain ⟨es, rfl, he⟩ := h;cases es with
  | nil => exact Nat.le_refl _
  | cons p l =>
   obtain ⟨x, _, h0, h1⟩ := oN (L := 0) (by rw [List.all_cons, Bool.and_eq_true] at he; exact he.1);omega
 | L + 1, D, ht, h => by
  have hd := size_del (k := .int .i64 (L : Int)) ht;have hk : eO (D.del (.int .i64 (L : Int))) L := by
   obtain ⟨es, rfl, he⟩ := h;refine ⟨_, rfl, ?_⟩;rw [List.all_eq_true];intro p hp;obtain ⟨hp1, hp2⟩ := List.mem_filter.1 hp;obtain ⟨x, e, h0, h1⟩ := oN (List.all_eq_true.1 he p hp1);rw [e] at hp2;have hne : x ≠ (L : Int) := by
    rintro rfl;simp [Lit.sameKey] at hp2
   rw [e];exact uA h0 oM
  have := zu L (ht.del (.int .i64 (L : Int))) hk;split at hd <;> omega
theorem tO {w : World} {k : TypeId} {R : Value → Option (DataW Unit × List MemPlace)} {b n L : Nat} {D : DataW Unit} (h : w.ownsMap Tryz.prog k R b n D) (K : Keyed Tryz.prog k) (hk : eO D L) : w.ownsMap Tryz.prog k R b L D := by
 have ht := h.tidy K;have hs := zu L ht hk;obtain ⟨es, clock, hb, F, _, rfl⟩ := h;refine ⟨es, clock, hb, F, ?_, rfl⟩;rw [size_eq, length_sorted, List.length_map] at hs;simpa using hs
def kH (N : Nat) (w : World) (v : Option Nat) (g : Int → Int) : Prop := (∀ z, 0 ≤ g z ∧ (z < 0 ∨ (N : Int) ≤ z → g z = 0)) ∧ ((v = none ∧ ∀ z, g z = 0) ∨ ∃ (b : Nat) (D : DataW Unit), v = some b ∧ w.ownsMap Tryz.prog 3 (plainElem Tryz.prog 3) b N D ∧ eO D N ∧ (∀ z, (Lit.int .i64 z).wf = true → D.atKey (.int .i64 z) (.lit (.int .i64 0)) = .lit (.int .i64 (g z))) ∧ ∃ kl, Maps.has D kl = true)
def jd (v : Value) : Option (DataW Unit × List MemPlace) := match v with
 | .map none => some (.lit (.bool false), [])
 | .map (some b) => some (.lit (.int .i64 b), [])
 | _ => none
def j6 (u : Option Nat) : DataW Unit := match u with
 | none => .lit (.bool false)
 | some b => .lit (.int .i64 b)
theorem xL (u : Option Nat) : jd (.map u) = some (j6 u, []) := by cases u <;> rfl
theorem pE {v : Value} {u : Option Nat} {ps : List MemPlace} (h : jd v = some (j6 u, ps)) : v = .map u := by
 unfold jd at h;split at h
 ·cases u with
  | none => rfl
  | some b => injection h with h; injection h with h; injection h with h; cases h
 ·rename_i b;cases u with
  | none => injection h with h; injection h with h; injection h with h; cases h
  | some b' =>
   injection h with h
   injection h with h
   injection h with h
   injection h with _ h
   have : b = b' := by omega
   rw [this]
 ·cases h
def bW (N : Nat) (w : World) (v : Option Nat) (G : Nat → Int → Int) : Prop :=
 (v = none ∧ ∀ (t : Nat) z, G t z = 0) ∨ ∃ (b : Nat) (D : DataW Unit), v = some b ∧ w.ownsMap Tryz.prog 3 jd b 9 D ∧ eO D 9 ∧ ∀ t : Nat, t < 8 → ∃ u, D.atKey (.int .i64 ((t : Int) + 1)) (.lit (.bool false)) = j6 u ∧ kH N w u (G t)
theorem kH.below {N : Nat} {w w' : World} {v : Option Nat} {g : Int → Int} (h : kH N w v g) (hb : Below w.heap.size w w') : kH N w' v g := by
 refine ⟨h.1, ?_⟩;rcases h.2 with h | ⟨b, D, e, h1, h2⟩
 ·exact .inl h
 ·exact .inr ⟨b, D, e, h1.kept (aG hb none) sM, h2⟩
theorem bW.below {N : Nat} {w w' : World} {v : Option Nat} {G : Nat → Int → Int} (h : bW N w v G) (hb : Below w.heap.size w w') : bW N w' v G := by
 rcases h with h | ⟨b, D, e, h1, h2, h3⟩
 ·exact .inl h
 ·exact .inr ⟨b, D, e, h1.kept (aG hb none) sM, h2, fun t ht => by obtain ⟨u, e1, e2⟩ := h3 t ht; exact ⟨u, e1, e2.below hb⟩⟩
theorem kH.set {N : Nat} {w : World} {v : Option Nat} {g : Int → Int} (h : kH N w v g) {p : Addr} (hc' : ∃ u, w.cell? p = some u) (x : Value) : kH N (w.setCell p x) v g := by
 obtain ⟨u, hc⟩ := hc';refine ⟨h.1, ?_⟩;rcases h.2 with h | ⟨b, D, e, h1, h2⟩
 ·exact .inl h
 ·refine .inr ⟨b, D, e, h1.setCell ?_ x, h2⟩;rintro rfl;obtain ⟨es, c, hm, _⟩ := h1;rw [World.cell?, hm] at hc;cases hc
theorem bW.set {N : Nat} {w : World} {v : Option Nat} {G : Nat → Int → Int} (h : bW N w v G) {p : Addr} (hc' : ∃ u, w.cell? p = some u) (x : Value) : bW N (w.setCell p x) v G := by
 obtain ⟨u, hc⟩ := hc';rcases h with h | ⟨b, D, e, h1, h2, h3⟩
 ·exact .inl h
 ·refine .inr ⟨b, D, e, h1.setCell ?_ x, h2, fun t ht => by obtain ⟨u, e1, e2⟩ := h3 t ht; exact ⟨u, e1, e2.set ⟨_, hc⟩ x⟩⟩;rintro rfl;obtain ⟨es, c, hm, _⟩ := h1;rw [World.cell?, hm] at hc;cases hc
theorem bW.lt {N : Nat} {w : World} {v : Option Nat} {G : Nat → Int → Int} (h : bW N w v G) {b : Nat} (e : v = some b) : b < w.heap.size := by
 rcases h with ⟨e2, _⟩ | ⟨b', D, e2, h1, _⟩
 ·rw [e2] at e; cases e
 ·rw [e2] at e;injection e with e
  subst e;exact h1.lt
theorem AK {n b : Nat} {D : DataW Unit} (w : World) (hown : w.ownsMap Tryz.prog 3 (plainElem Tryz.prog 3) b n D) :
  Calls Tryz.prog 106 #[.map (some b)] w fun e w' => e = .returned (.map (some w.heap.size)) ∧ w'.ownsMap Tryz.prog 3 (plainElem Tryz.prog 3) w.heap.size n D ∧ w.heap.size < w'.heap.size ∧ Below w.heap.size w w' := by
 have hq := fun (w : World) (r : Option Nat) => run_eql_map_nil (P := Tryz.prog) w _ _ _ r Tryz.underlying211;obtain ⟨es, clock, hb, F, hs, hD⟩ := hown;have hta := fun (W : World) (v : Value) => js W 211 20 _ _ v Tryz.underlying211;go_enter Tryz.func106, Tryz.ntmps106
 go_wp2
 rw [k5 w 211 b es clock hb];(try simp only [Result.andThen]);rw [Oper.upon_value]
 go_wp2
 go_ret;exact ⟨rfl, ⟨es, clock, (MapKept.heap_alloc w _).1, F, hs, hD⟩, by simp, (Below.refl _ _).alloc (Nat.le_refl _) _⟩
theorem lG (w : World) : Calls Tryz.prog 106 #[.map none] w fun e w' => e = .returned (.map none) ∧ w' = w := by
 have hq := fun (w : World) (r : Option Nat) => run_eql_map_nil (P := Tryz.prog) w _ _ _ r Tryz.underlying211;go_enter Tryz.func106, Tryz.ntmps106
 go_wp2
 go_ret;exact ⟨rfl, rfl⟩
theorem jV {n b : Nat} {D : DataW Unit} (w : World) (hown : w.ownsMap Tryz.prog 3 jd b n D) :
  Calls Tryz.prog 107 #[.map (some b)] w fun e w' => e = .returned (.map (some w.heap.size)) ∧ w'.ownsMap Tryz.prog 3 jd w.heap.size n D ∧ w.heap.size < w'.heap.size ∧ Below w.heap.size w w' := by
 have hq := fun (w : World) (r : Option Nat) => run_eql_map_nil (P := Tryz.prog) w _ _ _ r Tryz.underlying92;obtain ⟨es, clock, hb, F, hs, hD⟩ := hown;have hta := fun (W : World) (v : Value) => js W 92 20 _ _ v Tryz.underlying92;go_enter Tryz.func107, Tryz.ntmps107
 go_wp2
 rw [k5 w 92 b es clock hb];(try simp only [Result.andThen]);rw [Oper.upon_value]
 go_wp2
 go_ret;exact ⟨rfl, ⟨es, clock, (MapKept.heap_alloc w _).1, F, hs, hD⟩, by simp, (Below.refl _ _).alloc (Nat.le_refl _) _⟩
theorem r9 (w : World) : Calls Tryz.prog 107 #[.map none] w fun e w' => e = .returned (.map none) ∧ w' = w := by
 have hq := fun (w : World) (r : Option Nat) => run_eql_map_nil (P := Tryz.prog) w _ _ _ r Tryz.underlying92;go_enter Tryz.func107, Tryz.ntmps107
 go_wp2
 go_ret;exact ⟨rfl, rfl⟩
end Go.Proofs.YtapjfhbonfehpaaGreatDoor
