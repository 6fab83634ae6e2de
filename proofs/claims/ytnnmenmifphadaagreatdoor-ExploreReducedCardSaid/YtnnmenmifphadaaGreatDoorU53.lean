/- ExploreReduced: the reduced search finds the same outcomes. -/
import Derived.Test.YtnnmenmifphadaaGreatDoorU50
import Derived.Test.YtnnmenmifphadaaGreatDoorU52
import Derived.Test.YtnnmenmifphadaaGreatDoorCards
import Derived.Test.YtnnmenmifphadaaGreatDoorTie
import Derived.Test.YtnnmenmifphadaaGreatDoorU03
import Derived.Test.YtnnmenmifphadaaGreatDoorU49
set_option linter.unusedSimpArgs false
set_option linter.unusedVariables false
set_option maxRecDepth 100000
set_option maxHeartbeats 40000000
namespace Go.Proofs.YtnnmenmifphadaaGreatDoor
open Go.RowKit Go.Maps Go.Sort
set_option maxRecDepth 100000
def encH (g n c : Nat) : DataW Unit := .agg [.lit (.int .i64 (g : Int)), .lit (.int .i64 (n : Int)), .lit (.int .i64 (c : Int))]
def slcE (v : Value) : Option (DataW Unit × List MemPlace) := match v with
 | .slice (some ⟨g, 0, none⟩) n c => some (encH g n c, [])
 | .slice none 0 0 => some (.lit (.bool true), [])
 | _ => none
theorem slcE_inv {v : Value} {g n c : Nat} {ps : List MemPlace} (h : slcE v = some (encH g n c, ps)) : v = .slice (some ⟨g, 0, none⟩) n c := by
 unfold slcE at h
 split at h
 ·simp only [encH, Option.some.injEq, Prod.mk.injEq, DataW.agg.injEq, List.cons.injEq, DataW.lit.injEq, Lit.int.injEq, Int.natCast_inj, true_and, and_true] at h
  obtain ⟨⟨rfl, rfl, rfl⟩, _⟩ := h
  rfl
 ·simp [encH] at h
 ·cases h
theorem slcE_nil {v : Value} {ps : List MemPlace} (h : slcE v = some (.lit (.bool true), ps)) : v = .slice none 0 0 := by
 unfold slcE at h
 split at h
 ·simp [encH] at h
 ·rfl
 ·cases h
theorem encH_inj {g n c g' n' c' : Nat} (h : encH g n c = encH g' n' c') : g = g' ∧ n = n' ∧ c = c' := by
 simp only [encH, DataW.agg.injEq, List.cons.injEq, DataW.lit.injEq, Lit.int.injEq, Int.natCast_inj, true_and, and_true] at h
 exact h
abbrev mapV (zs : List (Nat × DataW Unit)) : List Value := zs.map (fun z => Value.map (some z.1))
structure RowZ (b1 b2 : Nat) (zs : List (Nat × DataW Unit)) (v : Value) (w : World) : Prop where
 r : w.ownsRow 0 126 1 v zs.length (mapV zs)
 z : ∀ z ∈ zs, SetM z.1 z.2 w ∧ z.1 ≠ b1 ∧ z.1 ≠ b2
structure SeenM (b1 b2 : Nat) (G X : Nat → Prop) (Sn : List UInt8 → List (DataW Unit)) (D : DataW Unit) (w : World) : Prop where
 o : w.ownsMap Tryz.prog 9 slcE b1 (Maps.size D) D
 no : ∀ k, has D (.string k) = false → Sn k = []
 yes : ∀ k, has D (.string k) = true → ∃ (g c : Nat) (zs : List (Nat × DataW Unit)), (∀ z, D.atKey (.string k) z = encH g zs.length c) ∧ zs.map Prod.snd = Sn k ∧ RowZ b1 b2 zs (.slice (some ⟨g, 0, none⟩) zs.length c) w ∧ G g ∧ ∀ z ∈ zs, X z.1
 ap : ∀ k k' g n c n' c', has D (.string k) = true → has D (.string k') = true → (∀ z, D.atKey (.string k) z = encH g n c) → (∀ z, D.atKey (.string k') z = encH g n' c') → k = k'
 gl : ∀ g, G g → g < w.heap.size ∧ ∃ e cur, w.heap[g]? = some (.cells cur e (0, 0))
section
variable {b1 b2 : Nat} {G X : Nat → Prop} {Sn : List UInt8 → List (DataW Unit)} {D : DataW Unit} {w w' : World} {zs : List (Nat × DataW Unit)} {v : Value}
theorem RowZ.nil (b1 b2 : Nat) (w : World) : RowZ b1 b2 [] (.slice none 0 0) w := ⟨World.ownsRow_nil _ _ _ _, fun z hz => by cases hz⟩
theorem RowZ.kept (h : RowZ b1 b2 zs v w) (hr : ∀ g, v.ownBlock = some g → w'.heap[g]? = w.heap[g]?) (hz : ∀ z ∈ zs, SetM z.1 z.2 w') : RowZ b1 b2 zs v w' := by
 refine ⟨⟨h.r.1, ?_⟩, fun z hm => ⟨hz z hm, (h.z z hm).2⟩⟩
 rcases h.r.2 with h2 | ⟨g, cap, cur, rfl, h3, h4, h5⟩
 ·exact .inl h2
 ·exact .inr ⟨g, cap, cur, rfl, h3, (hr g rfl).trans h4, h5⟩
theorem RowZ.lt (h : RowZ b1 b2 zs v w) {g : Nat} (hg : v.ownBlock = some g) : g < w.heap.size := by
 rcases h.r.2 with ⟨rfl, _⟩ | ⟨g', cap, cur, rfl, h3, h4, h5⟩
 ·cases hg
 ·cases hg
  exact (Array.getElem?_eq_some_iff.1 h4).1
theorem RowZ.below (h : RowZ b1 b2 zs v w) (hb : Below w.heap.size w w') : RowZ b1 b2 zs v w' := h.kept (fun g hg => hb.block g (h.lt hg)) (fun z hz => (h.z z hz).1.below hb)
theorem SetM.obj {m : Nat} {Z : DataW Unit} (h : SetM m Z w) : ∃ es c, w.heap[m]? = some (.map es c) := by
 obtain ⟨es, c, h, _⟩ := h.1
 exact ⟨es, c, h⟩
theorem SeenM.below (h : SeenM b1 b2 G X Sn D w) (hb : Below w.heap.size w w') : SeenM b1 b2 G X Sn D w' :=
 ⟨h.o.kept (grown_of_below hb none) sM, h.no, fun k hk => by
  obtain ⟨g, c, zs, h1, h2, h3, h4⟩ := h.yes k hk
  exact ⟨g, c, zs, h1, h2, h3.below hb, h4⟩, h.ap, fun g hg => by
  obtain ⟨h1, e, cur, h2⟩ := h.gl g hg
  exact ⟨Nat.lt_of_lt_of_le h1 hb.size, e, cur, (hb.block g h1).trans h2⟩⟩
theorem SeenM.put2 (h : SeenM b1 b2 G X Sn D w) (hne : b1 ≠ b2) (hm : ∃ es c, w.heap[b2]? = some (.map es c)) (hg : w.grownBy w' (some b2)) : SeenM b1 b2 G X Sn D w' := by
 obtain ⟨es, cc, hm⟩ := hm
 have hgne : ∀ g, (∃ e cur, w.heap[g]? = some (.cells cur e (0, 0))) → some g ≠ some b2 := fun g ⟨e, cur, h1⟩ e2 => by
  injection e2 with e2
  rw [e2, hm] at h1
  cases h1
 refine ⟨h.o.kept hg (by intro e; injection e with e; exact hne e), h.no, fun k hk => ?_, h.ap, fun g hG => ?_⟩
 ·obtain ⟨g, c, zs, h1, h2, h3, h4⟩ := h.yes k hk
  refine ⟨g, c, zs, h1, h2, h3.kept (fun g' hg' => ?_) (fun z hz => (h3.z z hz).1.grown hg (by intro e; injection e with e; exact (h3.z z hz).2.2 e)), h4⟩
  injection hg' with hg'
  subst hg'
  exact hg.block _ (h.gl _ h4.1).1 (hgne _ (h.gl _ h4.1).2)
 ·obtain ⟨h1, h2⟩ := h.gl g hG
  obtain ⟨e, cur, h3⟩ := h2
  exact ⟨Nat.lt_of_lt_of_le h1 hg.size, e, cur, (hg.block g h1 (hgne g ⟨e, cur, h3⟩)).trans h3⟩
theorem zero_slc (w : World) : (zeroValue 141).run Tryz.prog w = .ok (.slice none 0 0) w := by kernel_rfl
def decH (d : DataW Unit) : Value := match d with
 | .agg [.lit (.int .i64 g), .lit (.int .i64 n), .lit (.int .i64 c)] => .slice (some ⟨g.toNat, 0, none⟩) n.toNat c.toNat
 | _ => .slice none 0 0
def seenV (D : DataW Unit) (k : List UInt8) : Value := decH (D.atKey (.string k) (.lit (.bool true)))
theorem SeenM.look (h : SeenM b1 b2 G X Sn D w) {k : List UInt8} (hk : keyOf Tryz.prog 9 (.string ⟨k.toArray⟩) = some (.string k)) : ∃ zs : List (Nat × DataW Unit),
  (Instr.lookup 134 (.map (some b1)) (.string ⟨k.toArray⟩) false).run Tryz.prog w = .ok (seenV D k) w ∧ RowZ b1 b2 zs (seenV D k) w ∧ (∀ z ∈ zs, X z.1) ∧ zs.map Prod.snd = Sn k ∧ (∀ g, (seenV D k).ownBlock = some g → G g ∧ has D (.string k) = true ∧ ∃ c, ∀ z, D.atKey (.string k) z = encH g zs.length c) := by
 obtain ⟨v, ps, hrun, hv⟩ := h.o.lookup (string_keyed Tryz.underlying9) Tryz.underlying134 (zero_slc w) (zd := .lit (.bool true)) (zp := []) rfl hk
 cases hh : has D (.string k) with
 | true =>
  obtain ⟨g, c, zs, h1, h2, h3, h4⟩ := h.yes k hh
  have e : seenV D k = .slice (some ⟨g, 0, none⟩) zs.length c := by unfold seenV; rw [h1]; simp [decH, encH]
  rw [h1] at hv
  obtain rfl := slcE_inv hv
  rw [e]
  exact ⟨zs, hrun, h3, h4.2, h2, fun g' hg' => by
   injection hg' with hg'
   subst hg'
   exact ⟨h4.1, rfl, c, h1⟩⟩
 | false =>
  have e : seenV D k = .slice none 0 0 := by unfold seenV; rw [atKey_of_not_has hh]; rfl
  rw [atKey_of_not_has hh] at hv
  obtain rfl := slcE_nil hv
  rw [e]
  exact ⟨[], hrun, RowZ.nil _ _ _, (fun z hz => by cases hz), by rw [h.no k hh]; rfl, fun g hg => by cases hg⟩
end
set_option maxRecDepth 100000
theorem Refilled.grown {g : Nat} {w w' : World} (h : Refilled g w w') : w.grownBy w' (some g) := by
 obtain ⟨e, cur, cur', h1, h2, h3⟩ := h
 have hg := grownBy_setFrom g cur'.toList 0 w
 exact ⟨h3.os.trans hg.os, h3.tape.trans hg.tape, h3.output.trans hg.output, by have := h3.size; rw [setFrom_size] at this; exact this, fun k hk hne => (h3.block k hk).trans (hg.block k hk hne)⟩
theorem Held.refill {B0 L n g : Nat} {w w' : World} {V : WorldV} {P : PW} (h : Held B0 L n w V P) (ho : V.off g) (hB : B0 ≤ g) (hr : Refilled g w w') : Held B0 L n w' V P := by
 obtain ⟨e, cur, cur', h1, h2, h3⟩ := hr
 have q := h.fill ho (U := cur'.toList) (by rw [show cur'.toList.length = cur.toList.length by simp [h2]]; exact (box_obj h1).some) hB
 exact q.below (by rw [setFrom_size]; exact h3)
structure RKept (b1 b2 : Nat) (G : Nat → Prop) (w w' : World) : Prop where
 os : w'.os = w.os
 tape : w'.tape = w.tape
 output : w'.output = w.output
 size : w.heap.size ≤ w'.heap.size
 block : ∀ k, k < w.heap.size → k ≠ b1 → k ≠ b2 → ¬ G k → w'.heap[k]? = w.heap[k]?
 held : ∀ (B0 L n : Nat) (V : WorldV) (P : PW), (B0 ≤ b1 ∧ B0 ≤ b2 ∧ ∀ g, G g → B0 ≤ g) → (V.off b1 ∧ V.off b2 ∧ ∀ g, G g → V.off g) → Held B0 L n w V P → Held B0 L n w' V P
 set : ∀ (m : Nat) (Z : DataW Unit), m ≠ b1 → m ≠ b2 → ¬ G m → SetM m Z w → SetM m Z w'
section
variable {b1 b2 : Nat} {G G1 X : Nat → Prop} {w w' c : World}
theorem RKept.refl (b1 b2 : Nat) (G : Nat → Prop) (w : World) : RKept b1 b2 G w w := ⟨rfl, rfl, rfl, Nat.le_refl _, fun _ _ _ _ _ => rfl, fun _ _ _ _ _ _ _ h => h, fun _ _ _ _ _ h => h⟩
theorem RKept.of (hb : Below w.heap.size w w') : RKept b1 b2 G w w' :=
 ⟨hb.os, hb.tape, hb.output, hb.size, fun k hk _ _ _ => hb.block k hk, fun _ _ _ _ _ _ _ h => h.below hb, fun _ _ _ _ _ h => h.below hb⟩
theorem RKept.trans (h : RKept b1 b2 G w w') (k : RKept b1 b2 G1 w' c) (hG : ∀ g, G1 g → G g ∨ w.heap.size ≤ g) : RKept b1 b2 G w c :=
 ⟨k.os.trans h.os, k.tape.trans h.tape, k.output.trans h.output, Nat.le_trans h.size k.size,
  fun i hi g1 g2 g3 => (k.block i (Nat.lt_of_lt_of_le hi h.size) g1 g2 (fun g4 => (hG i g4).elim g3 (fun g5 => by omega))).trans (h.block i hi g1 g2 g3),
  fun B0 L n V P hB ho hh => k.held B0 L n V P ⟨hB.1, hB.2.1, fun g hg => (hG g hg).elim (hB.2.2 g) (fun h5 => Nat.le_trans hh.b h5)⟩ ⟨ho.1, ho.2.1, fun g hg => (hG g hg).elim (ho.2.2 g) (fun h5 => WorldV.off_new hh.r h5)⟩ (h.held B0 L n V P hB ho hh),
  fun m Z g1 g2 g3 hZ => k.set m Z g1 g2 (fun g4 => (hG m g4).elim g3 (fun g5 => by have := hZ.1.lt; omega)) (h.set m Z g1 g2 g3 hZ)⟩
theorem RKept.put1 (hg : w.grownBy w' (some b1)) (hC : StrM b1 w) : RKept b1 b2 G w w' :=
 ⟨hg.os, hg.tape, hg.output, hg.size, fun k hk g1 _ _ => hg.block k hk (by intro e; injection e with e; exact g1 e), fun _ _ _ _ _ hB ho h => h.grownB ho.1 hB.1 hC hg, fun m Z g1 _ _ h => h.grown hg (by intro e; injection e with e; exact g1 e)⟩
theorem RKept.put2 (hg : w.grownBy w' (some b2)) (hC : StrM b2 w) : RKept b1 b2 G w w' :=
 ⟨hg.os, hg.tape, hg.output, hg.size, fun k hk _ g1 _ => hg.block k hk (by intro e; injection e with e; exact g1 e), fun _ _ _ _ _ hB ho h => h.grownB ho.2.1 hB.2.1 hC hg, fun m Z _ g1 _ h => h.grown hg (by intro e; injection e with e; exact g1 e)⟩
theorem RKept.refill {g : Nat} (hr : Refilled g w w') (hg : G g) : RKept b1 b2 G w w' := by
 have h := hr.grown
 refine ⟨h.os, h.tape, h.output, h.size, fun k hk _ _ g3 => h.block k hk (by intro e; injection e with e; exact g3 (e ▸ hg)), fun _ _ _ _ _ hB ho hh => hh.refill (ho.2.2 g hg) (hB.2.2 g hg) hr, fun m Z _ _ _ hZ => hZ.grown h ?_⟩
 intro e
 injection e with e
 subst e
 obtain ⟨es, cc, h1⟩ := hZ.obj
 obtain ⟨e, cur, cur', h2, _⟩ := hr
 rw [h1] at h2
 cases h2
theorem keyOf_stp (v : Value) {kl : Lit} (h : keyOf Tryz.prog 146 v = some kl) : keyOf Tryz.prog 63 v = none := by
 have e1 := Tryz.underlying146
 have e2 := Tryz.underlying63
 generalize Tryz.prog = P at e1 e2 h ⊢
 simp only [keyOf, mapKey, e1, e2] at h ⊢
 cases v <;> simp_all [Value.formed]
theorem StrM.ofS {b : Nat} {D : DataW Unit} {w : World} (h : SetM b D w) : StrM b w := by
 obtain ⟨⟨es, clock, hb, F, _, _⟩, _⟩ := h
 refine ⟨es, clock, hb, fun x hx => ?_⟩
 obtain ⟨y, hy⟩ := F.reads x hx
 exact keyOf_stp _ (Go.WideElems.rd_key hy)
theorem RKept.putM {b : Nat} (hg : w.grownBy w' (some b)) (hC : StrM b w) (hb : G b) : RKept b1 b2 G w w' :=
 ⟨hg.os, hg.tape, hg.output, hg.size, fun k hk _ _ g3 => hg.block k hk (by intro e; injection e with e; exact g3 (e ▸ hb)), fun _ _ _ _ _ hB ho h => h.grownB (ho.2.2 b hb) (hB.2.2 b hb) hC hg, fun m Z _ _ g3 h => h.grown hg (by intro e; injection e with e; exact g3 (e ▸ hb))⟩
def AppAt (G : Nat → Prop) (v : Value) (g' : Nat) (w w' : World) : Prop := (v.ownBlock = some g' ∧ Refilled g' w w') ∨ (g' = w.heap.size ∧ Below w.heap.size w w')
theorem AppAt.grown {v : Value} {g' : Nat} (h : AppAt G v g' w w') : w.grownBy w' (some g') := by
 rcases h with ⟨_, h⟩ | ⟨_, h⟩
 ·exact h.grown
 ·exact (grown_of_below h none).but _
theorem AppAt.kept {v : Value} {g' : Nat} (h : AppAt G v g' w w') (hG : ∀ g, v.ownBlock = some g → G g) : RKept b1 b2 G w w' := by
 rcases h with ⟨h1, h⟩ | ⟨_, h⟩
 ·exact .refill h (hG _ h1)
 ·exact .of h
theorem SeenM.add {Sn : List UInt8 → List (DataW Unit)} {D : DataW Unit} {w2 w3 : World} {k : List UInt8} {v : Value} {zs : List (Nat × DataW Unit)} {m g' c' N : Nat} {Z : DataW Unit} (h : SeenM b1 b2 G X Sn D w) (hz : RowZ b1 b2 zs v w) (hzx : ∀ z ∈ zs, X z.1) (hzs : zs.map Prod.snd = Sn k) (hv : ∀ g, v.ownBlock = some g → G g ∧ has D (.string k) = true ∧ ∃ c, ∀ z, D.atKey (.string k) z = encH g zs.length c)
  (hown : w2.ownsRow 0 126 1 (.slice (some ⟨g', 0, none⟩) (zs.length + 1) c') (zs.length + 1) (mapV zs ++ [Value.map (some m)])) (ha : AppAt G v g' w w2) (hZ : SetM m Z w) (hm1 : m ≠ b1) (hm2 : m ≠ b2)
  (ho : w3.ownsMap Tryz.prog 9 slcE b1 N (D.put (.string k) (encH g' (zs.length + 1) c'))) (hg : w2.grownBy w3 (some b1)) :
  SeenM b1 b2 (fun g => G g ∨ g = g') (fun x => X x ∨ x = m) (addZ Sn k Z) (D.put (.string k) (encH g' (zs.length + 1) c')) w3 := by
 have hgr := ha.grown
 -- a set's block is not the row's
 have hset : ∀ (m' : Nat) (Z' : DataW Unit), m' ≠ b1 → SetM m' Z' w → SetM m' Z' w3 := fun m' Z' hne hs => by
  have hne2 : some m' ≠ some g' := fun e => by
   injection e with e
   subst e
   obtain ⟨es, cc, q1⟩ := hs.obj
   rcases ha with ⟨_, e', cur, cur', q2, _⟩ | ⟨q2, _⟩
   ·rw [q1] at q2; cases q2
   ·have := (Array.getElem?_eq_some_iff.1 q1).1
    omega
  exact (hs.grown hgr hne2).grown hg (by intro e; injection e with e; exact hne e)
 -- a block of cells keeps its object, the row's apart
 have hob1 : ∃ es cc, w.heap[b1]? = some (.map es cc) := by
  obtain ⟨es, cc, q, _⟩ := h.o
  exact ⟨es, cc, q⟩
 obtain ⟨es1, cc1, hob1⟩ := hob1
 have hcell : ∀ g, G g → g ≠ g' → w3.heap[g]? = w.heap[g]? := fun g hG hne => by
  obtain ⟨q1, e, cur, q2⟩ := h.gl g hG
  have hnb : some g ≠ some b1 := fun e => by
   injection e with e
   subst e
   rw [hob1] at q2
   cases q2
  exact (hg.block g (Nat.lt_of_lt_of_le q1 hgr.size) hnb).trans (hgr.block g q1 (by intro e; injection e with e; exact hne e))
 have hg'2 : g' < w2.heap.size ∧ ∃ e cur, w2.heap[g']? = some (.cells cur e (0, 0)) := by
  rcases hown.2 with ⟨q, _⟩ | ⟨g, cap, cur, q, _, q1, _⟩
  ·cases q
  ·cases q
   exact ⟨(Array.getElem?_eq_some_iff.1 q1).1, _, cur, q1⟩
 have hg'b : g' ≠ b1 := fun e => by
  subst e
  rcases ha with ⟨_, e', cur, cur', q2, _⟩ | ⟨q2, _⟩
  ·rw [hob1] at q2; cases q2
  ·have := (Array.getElem?_eq_some_iff.1 hob1).1
   omega
 have hg'3 : w3.heap[g']? = w2.heap[g']? := hg.block g' hg'2.1 (by intro e; injection e with e; exact hg'b e)
 have hother : ∀ k', k' ≠ k → has (D.put (.string k) (encH g' (zs.length + 1) c')) (.string k') = has D (.string k') := fun k' hne => has_put_other (fun e => hne (by injection e)) _
 have hotherA : ∀ k', k' ≠ k → ∀ z, (D.put (.string k) (encH g' (zs.length + 1) c')).atKey (.string k') z = D.atKey (.string k') z := fun k' hne z => atKey_put_other (fun e => hne (by injection e)) _ z
 have hsame : ∀ z, (D.put (.string k) (encH g' (zs.length + 1) c')).atKey (.string k) z = encH g' (zs.length + 1) c' := fun z => atKey_put_same h.o.isMap (by trivial) _ z
 -- another key's row is not this one
 have hapart : ∀ k' g n c, k' ≠ k → has D (.string k') = true → (∀ z, D.atKey (.string k') z = encH g n c) → G g → g ≠ g' := fun k' g n c hne hk' hat hG e => by
  subst e
  rcases ha with ⟨q1, _⟩ | ⟨q2, _⟩
  ·obtain ⟨_, q3, c2, q4⟩ := hv _ q1
   exact hne (h.ap k' k _ _ _ _ _ hk' q3 hat q4)
  ·have := (h.gl _ hG).1
   omega
 refine ⟨ownsMap_refit ho, fun k' hk' => ?_, fun k' hk' => ?_, fun k1 k2 g n c n' c2 h1 h2 h3 h4 => ?_, fun g hG => ?_⟩
 ·by_cases e : k' = k
  ·subst e
   rw [has_put_same h.o.isMap (by trivial)] at hk'
   cases hk'
  ·rw [hother k' e] at hk'
   unfold addZ
   rw [if_neg e]
   exact h.no k' hk'
 ·by_cases e : k' = k
  ·subst e
   refine ⟨g', c', zs ++ [(m, Z)], fun z => by rw [hsame]; simp, ?_, ⟨?_, fun z hzm => ?_⟩, .inr rfl, fun z hzm => ?_⟩
   ·unfold addZ
    rw [if_pos rfl, List.map_append, hzs]
    rfl
   ·have q : w3.ownsRow 0 126 1 (.slice (some ⟨g', 0, none⟩) (zs.length + 1) c') (zs.length + 1) (mapV zs ++ [Value.map (some m)]) := by
     refine ⟨hown.1, ?_⟩
     rcases hown.2 with ⟨q, _⟩ | ⟨g, cap, cur, q, q0, q1, q2⟩
     ·cases q
     ·cases q
      exact .inr ⟨g', c', cur, rfl, q0, hg'3.trans q1, q2⟩
    simpa [mapV] using q
   ·rcases List.mem_append.1 hzm with hzm | hzm
    ·exact ⟨hset _ _ (hz.z z hzm).2.1 (hz.z z hzm).1, (hz.z z hzm).2⟩
    ·rw [List.mem_singleton] at hzm
     subst hzm
     exact ⟨hset m Z hm1 hZ, hm1, hm2⟩
   ·rcases List.mem_append.1 hzm with hzm | hzm
    ·exact .inl (hzx z hzm)
    ·rw [List.mem_singleton] at hzm
     subst hzm
     exact .inr rfl
  ·rw [hother k' e] at hk'
   obtain ⟨g, c, zs', q1, q2, q3, q4, q5⟩ := h.yes k' hk'
   refine ⟨g, c, zs', fun z => by rw [hotherA k' e]; exact q1 z, by unfold addZ; rw [if_neg e]; exact q2, q3.kept (fun g0 hg0 => ?_) (fun z hzm => hset _ _ (q3.z z hzm).2.1 (q3.z z hzm).1), .inl q4, fun z hzm => .inl (q5 z hzm)⟩
   injection hg0 with hg0
   subst hg0
   exact hcell _ q4 (hapart k' _ _ _ e hk' q1 q4)
 ·by_cases e1 : k1 = k
  ·by_cases e2 : k2 = k
   ·rw [e1, e2]
   ·exfalso
    subst e1
    rw [hother k2 e2] at h2
    have h3' := (hsame (.lit (.bool true))).symm.trans (h3 _)
    obtain ⟨g2, c3, zs', q1, q2, q3, q4, _⟩ := h.yes k2 h2
    have h4' := (q1 (.lit (.bool true))).symm.trans ((hotherA k2 e2 _).symm.trans (h4 _))
    obtain ⟨r1, _⟩ := encH_inj h3'
    obtain ⟨r2, _⟩ := encH_inj h4'
    exact hapart k2 g2 _ _ e2 h2 q1 q4 (by rw [r2, r1])
  ·by_cases e2 : k2 = k
   ·exfalso
    subst e2
    rw [hother k1 e1] at h1
    have h4' := (hsame (.lit (.bool true))).symm.trans (h4 _)
    obtain ⟨g2, c3, zs', q1, q2, q3, q4, _⟩ := h.yes k1 h1
    have h3' := (q1 (.lit (.bool true))).symm.trans ((hotherA k1 e1 _).symm.trans (h3 _))
    obtain ⟨r1, _⟩ := encH_inj h4'
    obtain ⟨r2, _⟩ := encH_inj h3'
    exact hapart k1 g2 _ _ e1 h1 q1 q4 (by rw [r2, r1])
   ·rw [hother k1 e1] at h1
    rw [hother k2 e2] at h2
    exact h.ap k1 k2 g n c n' c2 h1 h2 (fun z => by rw [← hotherA k1 e1]; exact h3 z) (fun z => by rw [← hotherA k2 e2]; exact h4 z)
 ·rcases hG with hG | rfl
  ·by_cases e : g = g'
   ·subst e
    exact ⟨Nat.lt_of_lt_of_le hg'2.1 hg.size, by rw [hg'3]; exact hg'2.2⟩
   ·rw [hcell g hG e]
    exact ⟨Nat.lt_of_lt_of_le (h.gl g hG).1 (Nat.le_trans hgr.size hg.size), (h.gl g hG).2⟩
  ·exact ⟨Nat.lt_of_lt_of_le hg'2.1 hg.size, by rw [hg'3]; exact hg'2.2⟩
end
theorem known_fn (m s bx : Nat) (A B : DataW Unit) (w : World) (hA : SetM m A w) (hB : SetM s B w) (hx : w.cell? ⟨bx, 0, none⟩ = some (.map (some s))) :
  Calls Tryz.prog 127 #[.map (some m), .pointer (some ⟨bx, 0, none⟩)] w (Ret (.bool (subB A B)) w) := by
 have hw := ex_within m s A B w hA hB
 have Hw := hide hw
 clear hw hA hB
 go_enter Tryz.func127, Tryz.ntmps127
 go_wp2_with (go_at_call 128; refine Hw.out.mono ?_; rintro e w1 ⟨rfl, hb1⟩)
 go_ret
 exact ⟨rfl, hb1⟩
noncomputable def anyB (zs : List (Nat × DataW Unit)) (B : DataW Unit) : Bool := zs.any (fun z => subB z.2 B)
theorem index_fn (b1 b2 s bx : Nat) (B : DataW Unit) (zs : List (Nat × DataW Unit)) (A : Option Addr) (cp : Nat) (w : World) (hz : RowZ b1 b2 zs (.slice A zs.length cp) w) (hB : SetM s B w) (hx : w.cell? ⟨bx, 0, none⟩ = some (.map (some s))) (hxl : bx < w.heap.size) (hn : zs.length ≤ 100000000000) :
  Calls Tryz.prog 152 #[.slice A zs.length cp, .func (.func 127) #[] #[.pointer (some ⟨bx, 0, none⟩)]] w fun e w' => ∃ z : Int, e = .returned (.int .i64 z) ∧ (0 ≤ z ↔ anyB zs B = true) ∧ Below w.heap.size w w' := by
 have Hz := hide hz
 have HB := hide hB
 clear hz hB
 go_enter Tryz.func152, Tryz.ntmps152
 go_wp2_with fail
 go_loopw [8] (fun i wr => ∃ k : Nat, i = .int .i64 k ∧ k ≤ zs.length ∧ Hid (∀ j z, j < k → zs[j]? = some z → subB z.2 B = false) ∧ Hid (Below w.heap.size w wr)) (fun i _ => zs.length - (intOf i).toNat)
 case atStart => exact ⟨0, rfl, by omega, hide (fun j z hj => by omega), hide (Below.refl _ _)⟩
 case round =>
  obtain ⟨k, rfl, hk, Hno, Hb⟩ := hrel
  have i1 : (0 : Int) ≤ (k : Int) := by omega
  by_cases hlt : (k : Int) < zs.length
  ·have hk1 : k < zs.length := by omega
   obtain ⟨z, hzk⟩ : ∃ z, zs[k]? = some z := ⟨_, List.getElem?_eq_getElem hk1⟩
   obtain ⟨g, c, e, _, _, hrd⟩ := own_some Hz.out.r oM
   injection e with e1 e2 e3
   subst e1 e3
   obtain ⟨bl, off, e, hbl, hcl⟩ := hrd.2 oM
   injection e with e
   injection e with e4 e5 e6
   subst e4 e5
   have hc0 := hcl k (Value.map (some z.1)) (by simp [mapV, hzk])
   have hbr := Hb.out
   obtain ⟨hcr, hfr⟩ := bcell hbr
   have hcr0 : wr.cell? ⟨g, 0 + k, none⟩ = some (.map (some z.1)) := (hcr g (0 + k) hbl).trans hc0
   rw [Nat.zero_add] at hcr0
   have hgr : g < wr.heap.size := Nat.lt_of_lt_of_le hbl hbr.size
   have hzm := List.mem_of_getElem? hzk
   have hfn := known_fn z.1 s bx z.2 B wr ((Hz.out.z z hzm).1.below hbr) (HB.out.below hbr) ((hcr bx 0 hxl).trans hx)
   have Hfn := hide hfn
   have Hzk := hide hzk
   have hss := hbr.size
   clear hfn hcl hrd hc0 hbr hcr hfr hzk hzm e2
   cases hs : subB z.2 B with
   | true =>
    rw [hs] at Hfn
    have hany : anyB zs B = true := List.any_eq_true.2 ⟨z, List.mem_of_getElem? Hzk.out, hs⟩
    clear hs
    go_wp2_with (go_at_call 127; refine Hfn.out.mono ?_; rintro e w1 ⟨rfl, hb1⟩)
    go_ret
    exact ⟨_, rfl, ⟨fun _ => hany, fun _ => by omega⟩, Hb.out.trans (hb1.mono hss)⟩
   | false =>
    rw [hs] at Hfn
    have Hs := hide hs
    clear hs
    go_wp2_with (go_at_call 127; refine Hfn.out.mono ?_; rintro e w1 ⟨rfl, hb1⟩)
    exact ⟨⟨k + 1, by go_num, by omega, hide (fun j z' hj hz' => by
     by_cases e : j = k
     ·subst e
      rw [Hzk.out] at hz'
      injection hz' with hz'
      rw [← hz']
      exact Hs.out
     ·exact Hno.out j z' oM hz'), hide (Hb.out.trans (hb1.mono hss))⟩, by simp [intOf]; omega⟩
  ·have hany : ¬ anyB zs B = true := fun h => by
    obtain ⟨z, hz, hs⟩ := List.any_eq_true.1 h
    obtain ⟨j, hj⟩ := List.mem_iff_getElem?.1 hz
    have hjl := (List.getElem?_eq_some_iff.1 hj).1
    rw [Hno.out j z oM hj] at hs
    cases hs
   go_wp2_with fail
   exact bodyPost_ret (v := .int .i64 (-1)) (by simp [results, Tryz.results152, go_sem]) rfl ⟨_, rfl, by decide, Hb.out⟩
theorem contains_fn (b1 b2 s bx : Nat) (B : DataW Unit) (zs : List (Nat × DataW Unit)) (A : Option Addr) (cp : Nat) (w : World) (hz : RowZ b1 b2 zs (.slice A zs.length cp) w) (hB : SetM s B w) (hx : w.cell? ⟨bx, 0, none⟩ = some (.map (some s))) (hxl : bx < w.heap.size) (hn : zs.length ≤ 100000000000) :
  Calls Tryz.prog 126 #[.slice A zs.length cp, .func (.func 127) #[] #[.pointer (some ⟨bx, 0, none⟩)]] w (Ret (.bool (anyB zs B)) w) := by
 have hi := index_fn b1 b2 s bx B zs A cp w hz hB hx hxl hn
 have Hi := hide hi
 clear hi hz hB
 go_enter Tryz.func126, Tryz.ntmps126
 go_wp2_with (go_at_call 152; refine Hi.out.mono ?_; rintro e w1 ⟨z, rfl, hz, hb1⟩; have Hzz := hide hz; clear hz)
 have hd : decide (0 ≤ z) = anyB zs B := by
  cases h : anyB zs B with
  | true => exact decide_eq_true (Hzz.out.2 h)
  | false => exact decide_eq_false (fun h2 => by rw [Hzz.out.1 h2] at h; cases h)
 go_ret
 exact ⟨by rw [← hd]; rfl, hb1⟩
set_option maxRecDepth 100000
theorem held_pend {B0 L n : Nat} {W : World} {V : WorldV} {P : PW} (h : Held B0 L n W V P) (hns : ∀ b ∈ P.ss, b = false) {t : Nat} {a : AS} (ht : t < 3) (ha : P.act t = some a) (W2 : World) (hb : Below W.heap.size W W2) :
  Calls Tryz.prog 94 #[(woV V), .int .i64 ((t : Int) + 1)] W2 (Ret (.tuple #[(acV a), .bool true]) W2) := by
 obtain ⟨x1, x2, x3, x4, x5, x6⟩ := h.lens
 obtain ⟨k, r, hk, hr, hrt, _⟩ := h.task ht
 obtain ⟨hs, hps⟩ := h.ss hns ht
 have hka := (held_act h ht hk ha W2).1
 have q := ex_pending V t k true W2 (h.below hb).r hk oM hs (fun W3 => (held_act h ht hk ha W3).2)
 rw [hka] at q
 exact q
theorem ex_asleep {B0 L n : Nat} {V : WorldV} {P : PW} (w : World) (h : Held B0 L n w V P) (hn : n ≤ 99) (hns : ∀ b ∈ P.ss, b = false) (m : Nat) (Lf : DataW Unit) (hm : SetM m Lf w) (s : Nat × Nat) (hs : s ∈ stpE E59 P) (hsub : ∀ o, inS o → hasS Lf o → o ∈ stpE E59 P) (hsz : (stpE E59 P).length ≤ 1000000) :
  Calls Tryz.prog 87 #[(woV V), .agg #[.int .i64 ((s.1 : Int) + 1), .int .i64 s.2], .map (some m)] w fun e w' => ∃ (mo : Nat) (Zs : DataW Unit), e = .returned (.map (some mo)) ∧ SetM mo Zs w' ∧ w.heap.size ≤ mo ∧ (∀ o, inS o → (hasS Zs o ↔ hasS Lf o ∧ indS P s o)) ∧ Below w.heap.size w w' := by
 obtain ⟨x1, x2, x3, x4, x5, x6⟩ := h.lens
 obtain ⟨s1, s2⟩ := stpE_iff.1 hs
 obtain ⟨a, ha, -⟩ := step_parts s2
 have hpa := fun W (hW : Below w.heap.size w W) => held_pend h hns (t := s.1) oM ha W hW
 have hpo := fun (o : Nat × Nat) (ho : o ∈ stpE E59 P) => show ∃ b, P.act o.1 = some b ∧ inI b.l ∧ ∀ W, Below w.heap.size w W → Calls Tryz.prog 94 #[(.agg #[.slice ((V).M).mem.pA ((V).M).mem.hs.length ((V).M).mem.pc, .slice ((V).M).mem.vA ((V).M).mem.vs.length ((V).M).mem.vc, .slice ((V).M).ln.fA ((V).M).ln.first.length ((V).M).ln.fc, .slice ((V).M).ln.lA ((V).M).ln.logs.length ((V).M).ln.lc, .map ((V).M).ln.asks, .slice ((V).M).sA ((V).M).steps.length ((V).M).sc, .int .i64 ((V).M).crashes, .slice (V).tA (V).ts.length (V).tc, .slice (V).sA (V).ss.length (V).sc]), .int .i64 ((o.1 : Int) + 1)] W fun e w' => e = .returned (.tuple #[(.agg #[.int .i64 (b).o, .int .i64 (b).l, .int .i64 (b).v, .int .u32 (b).r, .int .u32 (b).f, .int .i64 (b).v2, .int .u32 (b).r2, .int .u32 (b).f2]), .bool true]) ∧ Below W.heap.size W w' from by
  obtain ⟨o1, o2⟩ := stpE_iff.1 ho
  obtain ⟨b, hb, -⟩ := step_parts o2
  obtain ⟨_, r, hr, hrb⟩ := act_some hb
  exact ⟨b, hb, h.al r (List.mem_of_getElem? hr) b (act_mem hb hr), fun W hW => held_pend h hns (t := o.1) oM hb W hW⟩
 have hia : inI a.l := by
  obtain ⟨_, r, hr, _⟩ := act_some ha
  exact h.al r (List.mem_of_getElem? hr) a (act_mem ha hr)
 have Hpa := hide hpa
 have Hpo := hide hpo
 have Ha := hide ha
 have Hm := hide hm
 have Hsub := hide hsub
 have Hia := hide hia
 have hms := hm.1.lt
 have Hsz := hide hsz
 have Hs := hide hs
 clear hpa hpo ha hm hsub hia h hns hs s1 s2 x1 x2 x3 x4 x5 x6 hsz
 have hmm := @run_makeMap Tryz.prog
 go_enter Tryz.func87, Tryz.ntmps87
 go_upto_region 3 with (first
  | (go_at_call 94; refine (Hpa.out _ (by first | with_reducible assumption | exact ab0)).mono ?_; rintro e w1 ⟨rfl, hb1⟩; have hs1 := hb1.size; (try simp at hs1)))
 obtain ⟨w2, hw2⟩ : ∃ W : World, W = w1.alloc (.cells #[.int .i64 (a).o, .int .i64 (a).l, .int .i64 (a).v, .int .u32 (a).r, .int .u32 (a).f, .int .i64 (a).v2, .int .u32 (a).r2, .int .u32 (a).f2] 68) := ⟨_, rfl⟩
 have hb12 : Below w1.heap.size w1 w2 := by rw [hw2]; exact Below.alloc (Below.refl _ _) (Nat.le_refl _) _
 have hb02 := hb1.trans (hb12.mono hb1.size)
 have hxc : BoxC w.heap.size (wol V) w2 := by
  have q := (BoxC.made w #[.slice V.M.mem.pA V.M.mem.hs.length V.M.mem.pc, .slice V.M.mem.vA V.M.mem.vs.length V.M.mem.vc, .slice V.M.ln.fA V.M.ln.first.length V.M.ln.fc, .slice V.M.ln.lA V.M.ln.logs.length V.M.ln.lc, .map V.M.ln.asks, .slice V.M.sA V.M.steps.length V.M.sc, .int .i64 V.M.crashes, .slice V.tA V.ts.length V.tc, .slice V.sA V.ss.length V.sc] 40).below (w' := ((w.alloc (.cells #[.slice V.M.mem.pA V.M.mem.hs.length V.M.mem.pc, .slice V.M.mem.vA V.M.mem.vs.length V.M.mem.vc, .slice V.M.ln.fA V.M.ln.first.length V.M.ln.fc, .slice V.M.ln.lA V.M.ln.logs.length V.M.ln.lc, .map V.M.ln.asks, .slice V.M.sA V.M.steps.length V.M.sc, .int .i64 V.M.crashes, .slice V.tA V.ts.length V.tc, .slice V.sA V.ss.length V.sc] 40)).alloc (.cells #[.int .i64 ((s.1 : Int) + 1), .int .i64 s.2] 146)).alloc (.map #[] 0)) ab0
  exact q.below hb02
 have hxs : BoxC (w.heap.size + 1) [.int .i64 ((s.1 : Int) + 1), .int .i64 s.2] w2 := by
  have q := (BoxC.made (w.alloc (.cells #[.slice V.M.mem.pA V.M.mem.hs.length V.M.mem.pc, .slice V.M.mem.vA V.M.mem.vs.length V.M.mem.vc, .slice V.M.ln.fA V.M.ln.first.length V.M.ln.fc, .slice V.M.ln.lA V.M.ln.logs.length V.M.ln.lc, .map V.M.ln.asks, .slice V.M.sA V.M.steps.length V.M.sc, .int .i64 V.M.crashes, .slice V.tA V.ts.length V.tc, .slice V.sA V.ss.length V.sc] 40)) #[.int .i64 ((s.1 : Int) + 1), .int .i64 s.2] 146).below (w' := ((w.alloc (.cells #[.slice V.M.mem.pA V.M.mem.hs.length V.M.mem.pc, .slice V.M.mem.vA V.M.mem.vs.length V.M.mem.vc, .slice V.M.ln.fA V.M.ln.first.length V.M.ln.fc, .slice V.M.ln.lA V.M.ln.logs.length V.M.ln.lc, .map V.M.ln.asks, .slice V.M.sA V.M.steps.length V.M.sc, .int .i64 V.M.crashes, .slice V.tA V.ts.length V.tc, .slice V.sA V.ss.length V.sc] 40)).alloc (.cells #[.int .i64 ((s.1 : Int) + 1), .int .i64 s.2] 146)).alloc (.map #[] 0)) ab0
  simp only [World.size_alloc] at q
  exact q.below hb02
 have hxa : BoxC w1.heap.size [.int .i64 (a).o, .int .i64 (a).l, .int .i64 (a).v, .int .u32 (a).r, .int .u32 (a).f, .int .i64 (a).v2, .int .u32 (a).r2, .int .u32 (a).f2] w2 := by rw [hw2]; exact BoxC.made w1 #[.int .i64 (a).o, .int .i64 (a).l, .int .i64 (a).v, .int .u32 (a).r, .int .u32 (a).f, .int .i64 (a).v2, .int .u32 (a).r2, .int .u32 (a).f2] 68
 have hso : SetM (w.heap.size + 1 + 1) (.map []) w2 := by
  have q := setM_made ((w.alloc (.cells #[.slice V.M.mem.pA V.M.mem.hs.length V.M.mem.pc, .slice V.M.mem.vA V.M.mem.vs.length V.M.mem.vc, .slice V.M.ln.fA V.M.ln.first.length V.M.ln.fc, .slice V.M.ln.lA V.M.ln.logs.length V.M.ln.lc, .map V.M.ln.asks, .slice V.M.sA V.M.steps.length V.M.sc, .int .i64 V.M.crashes, .slice V.tA V.ts.length V.tc, .slice V.sA V.ss.length V.sc] 40)).alloc (.cells #[.int .i64 ((s.1 : Int) + 1), .int .i64 s.2] 146))
  simp only [World.size_alloc] at q
  exact q.below hb02
 have hB2 : Below w.heap.size w w2 := (ab0 : Below w.heap.size w w1).trans (hb12.mono oM)
 have hs2 := hb12.size
 rw [← hw2]
 have HB2 := hide hB2
 have HXc := hide hxc
 have HXs := hide hxs
 have HXa := hide hxa
 have HSo := hide hso
 obtain ⟨C, hC⟩ : ∃ C, C = w.heap.size := ⟨_, rfl⟩
 rw [← hC] at HXc HXs HSo hs1 hms ⊢
 have HCw := hide hC
 obtain ⟨Ba, hBa⟩ : ∃ b, b = w1.heap.size := ⟨_, rfl⟩
 rw [← hBa] at HXa hs1 hs2 ⊢
 clear hw2 hb12 hb02 hxc hxs hxa hso hB2 hC hBa hb1 hmm
 have hmb : Below w.heap.size w w2 := HB2.out
 go_wp2_with (first
  | (at_range; refine wpList_range_own _ rfl _ 126 rfl 146 4 lawS Tryz.underlying126 _ m (Maps.size Lf) _ rfl (Hm.out.below HB2.out).1 ?_; intro w0 hrg0 hg0 hs0))
 go_frame
 have hB0 : Below w.heap.size w w0 := HB2.out.grown hg0 HB2.out.size (fun j hj => by cases hj)
 have HB0 := hide hB0
 have HXc0 := hide (HXc.out.grown hg0 sM)
 have HXs0 := hide (HXs.out.grown hg0 sM)
 have HXa0 := hide (HXa.out.grown hg0 sM)
 have HSo0 := hide (HSo.out.grown hg0 sM)
 have Hrg0 := hide hrg0
 obtain ⟨R0, hR0⟩ : ∃ b, b = w2.heap.size := ⟨_, rfl⟩
 rw [← hR0] at Hrg0 ⊢
 have hBaR : Ba < R0 := by rw [hR0]; exact HXa.out.2.2
 clear hs0 hg0 hrg0 hB0 hR0 hmb HB2 HXc HXs HXa HSo hs2
 go_loopw [10] (fun _ wr => ∃ (left : Lit → Bool) (cnt : Nat) (Zs : DataW Unit), Hid (wr.ranges Tryz.prog 146 (plainElem Tryz.prog 4) m R0 (Maps.size Lf) Lf left cnt) ∧ Hid (SetM (C + 1 + 1) Zs wr) ∧ Hid (∀ o, inS o → (hasS Zs o ↔ (hasS Lf o ∧ left (stk o) = false) ∧ indS P s o)) ∧ Hid (BoxC C (wol V) wr ∧ BoxC (C + 1) [.int .i64 ((s.1 : Int) + 1), .int .i64 s.2] wr ∧ BoxC Ba [.int .i64 (a).o, .int .i64 (a).l, .int .i64 (a).v, .int .u32 (a).r, .int .u32 (a).f, .int .i64 (a).v2, .int .u32 (a).r2, .int .u32 (a).f2] wr) ∧ Hid (Below w.heap.size w wr)) (fun _ wr => wr.rangeLeft m R0)
 case atStart => exact ⟨_, _, .map [], Hrg0, HSo0, hide (fun o _ => ⟨fun h => by simp [hasS, has] at h, fun h => by have h2 := h.1.2; rw [show has Lf (stk o) = true from h.1.1] at h2; cases h2⟩), hide ⟨HXc0.out, HXs0.out, HXa0.out⟩, HB0⟩
 case round =>
  obtain ⟨left, cnt, Zs, Hrg, HZ, Hiff, HX, Hnx⟩ := hrel
  go_wp2_with (first
   | (at_next; refine wpList_next_ranges _ rfl _ rfl 146 lawS (plainElem Tryz.prog 4) (fun v : Value => v) (fun v : Value => v) (fun key kl hk => ⟨key, rfl⟩) (fun v y hv => ⟨v, rfl⟩) m R0 (Maps.size Lf) _ _ _ rfl Hrg.out ?_ ?_))
  ·intro hc0 hl0
   have Hl0 := hide hl0
   clear hl0
   go_wp2_with fail
   go_ret
   exact ⟨_, Zs, rfl, HZ.out, by have := HCw.out; omega, fun o ho => by rw [Hiff.out o ho]; simp [Hl0.out], Hnx.out⟩
  ·intro x c kl y ys w3 cnt3 hkey hlk hv hat hrg3 hlt hg3 hs3 hen
   obtain ⟨o, ho, rfl, rfl, hoL⟩ := met_step Hm.out.2 hkey hat
   have hos := Hsub.out o ho hoL
   obtain ⟨b, hb, hib, hpb⟩ := Hpo.out o hos
   have hX := HX.out
   have hx3 : BoxC C (wol V) w3 ∧ BoxC (C + 1) [.int .i64 ((s.1 : Int) + 1), .int .i64 s.2] w3 ∧ BoxC Ba [.int .i64 (a).o, .int .i64 (a).l, .int .i64 (a).v, .int .u32 (a).r, .int .u32 (a).f, .int .i64 (a).v2, .int .u32 (a).r2, .int .u32 (a).f2] w3 := ⟨hX.1.grown hg3 (by intro e; injection e with e; omega), hX.2.1.grown hg3 (by intro e; injection e with e; omega), hX.2.2.grown hg3 (by intro e; injection e with e; omega)⟩
   have hB3 : Below w.heap.size w w3 := Hnx.out.grown hg3 Hnx.out.size (fun j hj => by cases hj; have := HCw.out; omega)
   have hz3 : SetM (C + 1 + 1) Zs w3 := HZ.out.grown hg3 (by intro e; injection e with e; omega)
   have HX3 := hide hx3
   have HB3 := hide hB3
   have HZ3 := hide hz3
   have Hrg3 := hide hrg3
   have Hpb := hide hpb
   have Ho := hide ho
   have HoL := hide hoL
   have Hb := hide hb
   have Hib := hide hib
   have Hlk := hide hlk
   have hleft : ∀ W : World, W.ranges Tryz.prog 146 (plainElem Tryz.prog 4) m R0 (Maps.size Lf) Lf (fun z => left z && !z.sameKey (stk o)) cnt3 → W.rangeLeft m R0 < wr.rangeLeft m R0 := fun W hW => by rw [hW.left_eq, Hrg.out.left_eq]; exact hlt
   have Hlt := hide hleft
   have hsw3 := hB3.size
   have hC3 : C < w3.heap.size := hx3.1.2.2
   have hCa3 : Ba < w3.heap.size := hx3.2.2.2.2
   have hCs3 : C + 1 < w3.heap.size := hx3.2.1.2.2
   have hCm3 : C + 1 + 1 < w3.heap.size := hz3.1.lt
   obtain ⟨y0, y1, y2, y3, y4, y5, y6, y7, y8, yf⟩ := box9 hx3.1
   have hBr : Below w3.heap.size w3 w3 := Below.refl _ _
   clear hX hx3 hB3 hz3 hrg3 hpb ho hoL hb hib hlk hleft hlt hkey hv hat hg3 hs3 hos HX Hnx HZ Hrg0
   go_upto_region 7 with (first
    | (go_at_call 94; refine (Hpb.out _ (HB3.out.trans (Below.mono (B := w3.heap.size) ab0 hsw3))).mono ?_; rintro e w5 ⟨rfl, hb5⟩; have hs5 := hb5.size; (try simp at hs5)))
   obtain ⟨w4, hw4⟩ : ∃ W : World, W = w3.alloc (.cells #[.int .i64 ((o.1 : Int) + 1), .int .i64 o.2] 146) := ⟨_, rfl⟩
   obtain ⟨w6, hw6⟩ : ∃ W : World, W = w5.alloc (.cells #[.int .i64 (b).o, .int .i64 (b).l, .int .i64 (b).v, .int .u32 (b).r, .int .u32 (b).f, .int .i64 (b).v2, .int .u32 (b).r2, .int .u32 (b).f2] 68) := ⟨_, rfl⟩
   rw [← hw4] at hb5
   have hb34 : Below w3.heap.size w3 w4 := by rw [hw4]; exact Below.alloc (Below.refl _ _) (Nat.le_refl _) _
   have hs4 : w4.heap.size = w3.heap.size + 1 := by rw [hw4]; simp
   have hb56 : Below w5.heap.size w5 w6 := by rw [hw6]; exact Below.alloc (Below.refl _ _) (Nat.le_refl _) _
   have hs6 : w6.heap.size = w5.heap.size + 1 := by rw [hw6]; simp
   have hb46 : Below w4.heap.size w4 w6 := hb5.trans (hb56.mono hb5.size)
   have hb36 : Below w3.heap.size w3 w6 := hb34.trans (hb46.mono oM)
   have hxo : BoxC w3.heap.size [.int .i64 ((o.1 : Int) + 1), .int .i64 o.2] w6 := by
    have q := BoxC.made w3 #[.int .i64 ((o.1 : Int) + 1), .int .i64 o.2] 146
    rw [← hw4] at q
    exact q.below hb46
   have hxb : BoxC w5.heap.size [.int .i64 (b).o, .int .i64 (b).l, .int .i64 (b).v, .int .u32 (b).r, .int .u32 (b).f, .int .i64 (b).v2, .int .u32 (b).r2, .int .u32 (b).f2] w6 := by rw [hw6]; exact BoxC.made w5 #[.int .i64 (b).o, .int .i64 (b).l, .int .i64 (b).v, .int .u32 (b).r, .int .u32 (b).f, .int .i64 (b).v2, .int .u32 (b).r2, .int .u32 (b).f2] 68
   rw [← hw6]
   obtain ⟨Bo, hBo⟩ : ∃ z, z = w3.heap.size := ⟨_, rfl⟩
   obtain ⟨Bb, hBb⟩ : ∃ z, z = w5.heap.size := ⟨_, rfl⟩
   rw [← hBo] at hxo ⊢
   rw [← hBb] at hxb ⊢
   have HX6 := hide (show BoxC C (wol V) w6 ∧ BoxC (C + 1) [.int .i64 ((s.1 : Int) + 1), .int .i64 s.2] w6 ∧ BoxC Ba [.int .i64 (a).o, .int .i64 (a).l, .int .i64 (a).v, .int .u32 (a).r, .int .u32 (a).f, .int .i64 (a).v2, .int .u32 (a).r2, .int .u32 (a).f2] w6 from ⟨HX3.out.1.below hb36, HX3.out.2.1.below hb36, HX3.out.2.2.below hb36⟩)
   have HZ6 := hide (HZ3.out.below hb36)
   have hrg6 := Hrg3.out.kept (grown_of_below hb36 none) sM sM
   have HB6 := hide (HB3.out.trans (hb36.mono hsw3))
   have k0 : w6.cell? ⟨Bo, 0, none⟩ = some (.int .i64 ((o.1 : Int) + 1)) := hxo.at rfl
   have k1 : w6.cell? ⟨Bo, 1, none⟩ = some (.int .i64 o.2) := hxo.at rfl
   have k2 : w6.cell? ⟨C + 1, 0, none⟩ = some (.int .i64 ((s.1 : Int) + 1)) := HX6.out.2.1.at rfl
   have a0 : w6.cell? ⟨Ba, 0, none⟩ = some (.int .i64 a.o) := HX6.out.2.2.at rfl
   have a1 : w6.cell? ⟨Ba, 1, none⟩ = some (.int .i64 a.l) := HX6.out.2.2.at rfl
   have a2 : w6.cell? ⟨Ba, 2, none⟩ = some (.int .i64 a.v) := HX6.out.2.2.at rfl
   have a3 : w6.cell? ⟨Ba, 3, none⟩ = some (.int .u32 a.r) := HX6.out.2.2.at rfl
   have a4 : w6.cell? ⟨Ba, 4, none⟩ = some (.int .u32 a.f) := HX6.out.2.2.at rfl
   have a5 : w6.cell? ⟨Ba, 5, none⟩ = some (.int .i64 a.v2) := HX6.out.2.2.at rfl
   have a6 : w6.cell? ⟨Ba, 6, none⟩ = some (.int .u32 a.r2) := HX6.out.2.2.at rfl
   have a7 : w6.cell? ⟨Ba, 7, none⟩ = some (.int .u32 a.f2) := HX6.out.2.2.at rfl
   have b0 : w6.cell? ⟨Bb, 0, none⟩ = some (.int .i64 b.o) := hxb.at rfl
   have b1 : w6.cell? ⟨Bb, 1, none⟩ = some (.int .i64 b.l) := hxb.at rfl
   have b2 : w6.cell? ⟨Bb, 2, none⟩ = some (.int .i64 b.v) := hxb.at rfl
   have b3 : w6.cell? ⟨Bb, 3, none⟩ = some (.int .u32 b.r) := hxb.at rfl
   have b4 : w6.cell? ⟨Bb, 4, none⟩ = some (.int .u32 b.f) := hxb.at rfl
   have b5 : w6.cell? ⟨Bb, 5, none⟩ = some (.int .i64 b.v2) := hxb.at rfl
   have b6 : w6.cell? ⟨Bb, 6, none⟩ = some (.int .u32 b.r2) := hxb.at rfl
   have b7 : w6.cell? ⟨Bb, 7, none⟩ = some (.int .u32 b.f2) := hxb.at rfl
   have Hrg6 := hide hrg6
   have hzo6 : Bo < w6.heap.size := hxo.2.2
   have Hxo := hide hxo
   have hBoC : C + 1 + 1 ≠ Bo := by omega
   have hCm6 : C + 1 + 1 < w6.heap.size := HZ6.out.1.lt
   have hR6 : R0 < w6.heap.size := by have := Hrg6.out.lt; omega
   have hRm : R0 ≠ C + 1 + 1 := by omega
   have hind := fun W => ind_all a b W Hia.out Hib.out
   have Hind := hide hind
   have hB66 : Below w6.heap.size w6 w6 := Below.refl _ _
   have hkeyo := key_stv Ho.out
   unfold stv at hkeyo
   have Hkeyo := hide hkeyo
   clear hw4 hw6 hb5 hb34 hs4 hb56 hs6 hb46 hb36 hxo hxb hBo hBb hrg6 hind y0 y1 y2 y3 y4 y5 y6 y7 y8 yf hBr hs5 hC3 hCa3 hCs3 hCm3 hkeyo HX3 HB3 HZ3 Hrg3
   have hkeep : ∀ W : World, Below w6.heap.size w6 W → (Hid (¬ indS P s o)) → (∃ (left' : Lit → Bool) (cnt' : Nat) (Zs' : DataW Unit), Hid (W.ranges Tryz.prog 146 (plainElem Tryz.prog 4) m R0 (Maps.size Lf) Lf left' cnt') ∧ Hid (SetM (C + 1 + 1) Zs' W) ∧ Hid (∀ o, inS o → (hasS Zs' o ↔ (hasS Lf o ∧ left' (stk o) = false) ∧ indS P s o)) ∧ Hid (BoxC C (wol V) W ∧ BoxC (C + 1) [.int .i64 ((s.1 : Int) + 1), .int .i64 s.2] W ∧ BoxC Ba [.int .i64 (a).o, .int .i64 (a).l, .int .i64 (a).v, .int .u32 (a).r, .int .u32 (a).f, .int .i64 (a).v2, .int .u32 (a).r2, .int .u32 (a).f2] W) ∧ Hid (Below w.heap.size w W)) ∧ W.rangeLeft m R0 < wr.rangeLeft m R0 := fun W hW hni => by
    have hrgW := Hrg6.out.kept (grown_of_below hW none) sM sM
    refine ⟨⟨_, cnt3, Zs, hide hrgW, hide (HZ6.out.below hW), hide (fun q hq => ?_), hide ⟨HX6.out.1.below hW, HX6.out.2.1.below hW, HX6.out.2.2.below hW⟩, hide (HB6.out.trans (hW.mono HB6.out.size))⟩, Hlt.out W hrgW⟩
    rw [Hiff.out q hq]
    by_cases e : q = o
    ·subst e
     exact ⟨fun h => absurd h.2 hni.out, fun h => absurd h.2 hni.out⟩
    ·rw [sameKey_ne (fun h => e (stk_inj hq Ho.out h))]
     simp
   have Hkeep := hide hkeep
   clear hkeep
   by_cases e : o.1 = s.1
   ·have hz : (((o.1 : Int) + 1) != ((s.1 : Int) + 1)) = false := by rw [e]; simp
    have hni : Hid (¬ indS P s o) := hide (fun h => h.1 e)
    have Hni := hide hni
    clear hni
    go_wp2_with fail
    exact Hkeep.out _ (Below.refl _ _) Hni.out
   ·have hz : (((o.1 : Int) + 1) != ((s.1 : Int) + 1)) = true := by simp; omega
    cases hit : indT a b with
    | false =>
     have hni : Hid (¬ indS P s o) := hide (fun ⟨_, a', b', e1, e2, e3⟩ => by
      rw [Ha.out] at e1
      rw [Hb.out] at e2
      injection e1 with e1
      injection e2 with e2
      rw [← e1, ← e2, hit] at e3
      cases e3)
     have Hni := hide hni
     have Hind2 := hide (fun W => by have q := Hind.out W; rw [hit] at q; exact q)
     clear hni hit
     go_wp2_with (first
      | (go_at_call 19; with_reducible refine (Hind2.out _).mono ?_; rintro e w7 ⟨rfl, hb7⟩))
     exact Hkeep.out _ hb7 Hni.out
    | true =>
     have hszZ : Maps.size Zs ≤ 1000000 := Nat.le_trans (goodS_size HZ6.out.2 (fun q hq h => Hsub.out q hq ((Hiff.out q hq).1 h).1.1)) Hsz.out
     have Hyes := hide (show indS P s o from ⟨e, a, b, Ha.out, Hb.out, hit⟩)
     have Hind2 := hide (fun W => by have q := Hind.out W; rw [hit] at q; exact q)
     clear hit
     go_wp2_with (first
      | (go_at_call 19; with_reducible refine (Hind2.out _).mono ?_; rintro e w7 ⟨rfl, hb7⟩; obtain ⟨hcc7, hff7⟩ := bcell hb7; have hs7 := hb7.size)
      | (at_mapUpdate; refine wpList_mapUpdate_own _ rfl _ _ _ 126 rfl 146 4 lawS Tryz.underlying126 (plainElem Tryz.prog 4) (C + 1 + 1) (Maps.size Zs) Zs rfl (HZ6.out.below hb7).1 (by unfold maxLen; omega) _ _ _ rfl rfl Hkeyo.out (.lit (.bool true)) [] (plainElem_bool Tryz.underlying4 true) ?_; intro w8 hown8 hg8; have Hown8 := hide hown8; have Hg8 := hide hg8; have hs8 := hg8.size; clear hown8 hg8))
     have hb7' : Below w6.heap.size w6 w7 := hb7
     have hrg8 := (Hrg6.out.kept (grown_of_below hb7' none) sM sM).kept Hg8.out (by intro e2; injection e2 with e2; omega) (by intro e2; injection e2 with e2; omega)
     have hHX8 : BoxC C (wol V) w8 ∧ BoxC (C + 1) [.int .i64 ((s.1 : Int) + 1), .int .i64 s.2] w8 ∧ BoxC Ba [.int .i64 (a).o, .int .i64 (a).l, .int .i64 (a).v, .int .u32 (a).r, .int .u32 (a).f, .int .i64 (a).v2, .int .u32 (a).r2, .int .u32 (a).f2] w8 := ⟨(HX6.out.1.below hb7').grown Hg8.out (by intro e2; injection e2 with e2; omega), (HX6.out.2.1.below hb7').grown Hg8.out (by intro e2; injection e2 with e2; omega), (HX6.out.2.2.below hb7').grown Hg8.out (by intro e2; injection e2 with e2; omega)⟩
     have hB8 : Below w.heap.size w w8 := (HB6.out.trans (hb7'.mono HB6.out.size)).grown Hg8.out (Nat.le_trans HB6.out.size hb7'.size) (fun j hj => by injection hj with hj; have := HCw.out; omega)
     refine ⟨?_, Hlt.out _ hrg8⟩
     (repeat apply Exists.intro)
     refine ⟨?_, rfl⟩
     refine ⟨_, cnt3, _, hide hrg8, hide ⟨ownsMap_refit Hown8.out, HZ6.out.2.put Ho.out⟩, hide (fun q hq => ?_), hide hHX8, hide hB8⟩
     rw [hasS_put HZ6.out.2 Ho.out hq, Hiff.out q hq]
     by_cases e2 : q = o
     ·subst e2
      rw [WideAt.sameKey_self (stk_lit hq)]
      simp [HoL.out, Hyes.out]
     ·rw [sameKey_ne (fun h => e2 (stk_inj hq Ho.out h))]
      simp [e2]
set_option maxRecDepth 100000
structure RWalk (kb b1 b2 : Nat) (most : Int) (G X : Nat → Prop) (Sn : List UInt8 → List (DataW Unit)) (D F : DataW Unit) (w : World) : Prop where
 k : w.heap[kb]? = some (.cells #[.int .i64 most, .map (some b1), .map (some b2)] 136 (0, 0))
 n : b1 ≠ b2 ∧ kb ≠ b1 ∧ kb ≠ b2
 s : SeenM b1 b2 G X Sn D w
 f : w.ownsMap Tryz.prog 9 (plainElem Tryz.prog 4) b2 (Maps.size F) F
 g : ∀ g, G g → g ≠ kb
section
variable {kb b1 b2 : Nat} {most : Int} {G X : Nat → Prop} {Sn : List UInt8 → List (DataW Unit)} {D F F' : DataW Unit} {w w' : World}
theorem RWalk.below (h : RWalk kb b1 b2 most G X Sn D F w) (hb : Below w.heap.size w w') : RWalk kb b1 b2 most G X Sn D F w' :=
 ⟨(hb.block kb (Array.getElem?_eq_some_iff.1 h.k).1).trans h.k, h.n, h.s.below hb, h.f.kept (grown_of_below hb none) sM, h.g⟩
theorem RWalk.kl (h : RWalk kb b1 b2 most G X Sn D F w) : kb < w.heap.size := (Array.getElem?_eq_some_iff.1 h.k).1
theorem RWalk.c0 (h : RWalk kb b1 b2 most G X Sn D F w) : w.cell? ⟨kb, 0, none⟩ = some (.int .i64 most) := by simp [World.cell?, h.k]
theorem RWalk.c1 (h : RWalk kb b1 b2 most G X Sn D F w) : w.cell? ⟨kb, 1, none⟩ = some (.map (some b1)) := by simp [World.cell?, h.k]
theorem RWalk.c2 (h : RWalk kb b1 b2 most G X Sn D F w) : w.cell? ⟨kb, 2, none⟩ = some (.map (some b2)) := by simp [World.cell?, h.k]
theorem RWalk.put2 (h : RWalk kb b1 b2 most G X Sn D F w) (hg : w.grownBy w' (some b2)) {n : Nat} (ho : w'.ownsMap Tryz.prog 9 (plainElem Tryz.prog 4) b2 n F') : RWalk kb b1 b2 most G X Sn D F' w' := by
 obtain ⟨es, c, hm, _⟩ := h.f
 exact ⟨(hg.block kb h.kl (by intro e; injection e with e; exact h.n.2.2 e)).trans h.k, h.n, h.s.put2 h.n.1 ⟨es, c, hm⟩ hg, ownsMap_refit ho, h.g⟩
theorem SeenM.putM {m : Nat} (h : SeenM b1 b2 G X Sn D w) (hm1 : m ≠ b1) (hm : ∃ es c, w.heap[m]? = some (.map es c)) (hX : ¬ X m) (hg : w.grownBy w' (some m)) : SeenM b1 b2 G X Sn D w' := by
 obtain ⟨es, cc, hm⟩ := hm
 have hgne : ∀ g, (∃ e cur, w.heap[g]? = some (.cells cur e (0, 0))) → some g ≠ some m := fun g ⟨e, cur, h1⟩ e2 => by
  injection e2 with e2
  rw [e2, hm] at h1
  cases h1
 refine ⟨h.o.kept hg (by intro e; injection e with e; exact hm1 e.symm), h.no, fun k hk => ?_, h.ap, fun g hG => ?_⟩
 ·obtain ⟨g, c, zs, h1, h2, h3, h4⟩ := h.yes k hk
  refine ⟨g, c, zs, h1, h2, h3.kept (fun g' hg' => ?_) (fun z hzm => (h3.z z hzm).1.grown hg (by intro e; injection e with e; exact hX (e ▸ h4.2 z hzm))), h4⟩
  injection hg' with hg'
  subst hg'
  exact hg.block _ (h.gl _ h4.1).1 (hgne _ (h.gl _ h4.1).2)
 ·obtain ⟨h1, h2⟩ := h.gl g hG
  obtain ⟨e, cur, h3⟩ := h2
  exact ⟨Nat.lt_of_lt_of_le h1 hg.size, e, cur, (hg.block g h1 (hgne g ⟨e, cur, h3⟩)).trans h3⟩
end
noncomputable def knownB (Sn : List UInt8 → List (DataW Unit)) (k : List UInt8) (Z : DataW Unit) : Bool := (Sn k).any (fun o => subB o Z)
theorem ex_known {kb b1 b2 : Nat} {most : Int} {G X : Nat → Prop} {Sn : List UInt8 → List (DataW Unit)} {D F : DataW Unit} (w : World) (h : RWalk kb b1 b2 most G X Sn D F w) (k : List UInt8) (hk : keyOf Tryz.prog 9 (.string ⟨k.toArray⟩) = some (.string k)) (m : Nat) (Z : DataW Unit) (hZ : SetM m Z w) (hn : (Sn k).length ≤ 100000000000) :
  Calls Tryz.prog 85 #[.pointer (some ⟨kb, 0, none⟩), .string ⟨k.toArray⟩, .map (some m)] w (Ret (.bool (knownB Sn k Z)) w) := by
 obtain ⟨w1, hw1⟩ : ∃ W : World, W = w.alloc (.cells #[.map (some m)] 126) := ⟨_, rfl⟩
 have hb1 : Below w.heap.size w w1 := by rw [hw1]; exact Below.alloc (Below.refl _ _) (Nat.le_refl _) _
 have hx1 : BoxC w.heap.size [.map (some m)] w1 := by rw [hw1]; exact BoxC.made w #[.map (some m)] 126
 have h1 := h.below hb1
 obtain ⟨zs, hrun, hrow, _, hzs, _⟩ := h1.s.look hk
 obtain ⟨v, hv⟩ : ∃ v, v = seenV D k := ⟨_, rfl⟩
 rw [← hv] at hrun hrow
 clear hv
 obtain ⟨A, cp, rfl, _, _⟩ := own_slice hrow.r
 have hlen : zs.length ≤ 100000000000 := by rw [← hzs, List.length_map] at hn; exact hn
 have hany : anyB zs Z = knownB Sn k Z := by unfold anyB knownB; rw [← hzs, List.any_map]; rfl
 have hcon := contains_fn b1 b2 m w.heap.size Z zs A cp w1 hrow (hZ.below hb1) (hx1.at rfl) hx1.2.2 hlen
 rw [hany] at hcon
 have Hcon := hide hcon
 have HB1 := hide hb1
 have c1 := h1.c1
 have hss := hb1.size
 clear hcon hb1 hx1 h1 hrow hzs hany hlen h hZ hn
 go_enter Tryz.func85, Tryz.ntmps85
 go_upto_region 1 with fail
 rw [← hw1]
 clear hw1
 go_wp2_with (go_at_call 126; refine Hcon.out.mono ?_; rintro e w2 ⟨rfl, hb2⟩)
 go_ret
 exact ⟨rfl, HB1.out.trans (hb2.mono hss)⟩
set_option maxRecDepth 100000
section
variable {B0 L n : Nat} {W : World} {V : WorldV} {P : PW} {rs : List RowP}
theorem held_inv (h : Held B0 L n W V P) (ho : P.Of L rs) (hns : ∀ b ∈ P.ss, b = false) (hn : n + P.rk ≤ 90) : (rowsE (OkB L rs) B0).Inv W P := ⟨⟨⟨n, h.i, hn⟩, ho, hns⟩, h.rows, h.t, h.b⟩
theorem held_rep (h : Held B0 L n W V P) : (rowsE (OkB L rs) B0).Rep V P := ⟨h.s, by have := h.lens; have := h.l; omega⟩
theorem held_after (h : Held B0 L n W V P) (ho : P.Of L rs) (hns : ∀ b ∈ P.ss, b = false) (hn : n + P.rk ≤ 90) {s : Nat × Nat} (hs : s ∈ stpE E59 P) (W2 : World) (hW : Below W.heap.size W W2) :
  Calls Tryz.prog 59 #[(woV V), .agg #[.int .i64 ((s.1 : Int) + 1), .int .i64 s.2]] W2 fun e w' => ∃ V2 : WorldV, e = .returned (woV V2) ∧ Held B0 L (n + 1) w' V2 (P.next s) ∧ (∀ C, C < W2.heap.size → V.off C → V2.off C) ∧ Below W2.heap.size W2 w' := by
 have h2 := h.below hW
 refine ((okB_ok B0 h.l h.g).after (x := P) (s := s) h2.r (held_rep (rs := rs) h2) (held_inv h2 ho hns hn) hs).mono ?_
 rintro e w' ⟨V2, rfl, hRep, hR, hoff, hb⟩
 obtain ⟨a, ha, e⟩ := step_parts (stp_mem (P := P) hs)
 have hnx : (rowsE (OkB L rs) B0).next P s = P.next s := rfl
 refine ⟨V2, rfl, ?_, hoff, hb⟩
 rw [e]
 have hS := hRep.1
 rw [hnx, e] at hS
 exact ⟨hR, hS, nx_in h.i ha, rows_nxB (fun r hr => (h2.rows r hr).below (hb.mono h2.b)), h2.t.below (hb.mono h2.b) h2.g, Nat.le_trans h2.b hb.size, h2.g, h2.l, nx_al h2.al⟩
theorem held_steps (h : Held B0 L n W V P) (ho : P.Of L rs) (hns : ∀ b ∈ P.ss, b = false) (hn : n + P.rk ≤ 90) (W2 : World) (hW : Below W.heap.size W W2) :
  Calls Tryz.prog 58 #[(woV V)] W2 fun e w' => ∃ v : Value, e = .returned v ∧ w'.ownsRow W2.heap.size 146 2 v (stpE E59 P).length ((stpE E59 P).flatMap stc) ∧ Below W2.heap.size W2 w' := by
 have h2 := h.below hW
 exact (okB_ok B0 h.l h.g).steps (x := P) h2.r (held_rep (rs := rs) h2) (held_inv h2 ho hns hn)
theorem held_few (h : Held B0 L n W V P) (hn : n ≤ 7) : (stpE E59 P).length ≤ 24 := by
 have hc : ∀ x ∈ P.cs, x ≤ 8 := fun x hx => by
  obtain ⟨t, _, rfl⟩ := List.mem_map.1 hx
  unfold PW.ch
  split
  ·omega
  ·rename_i a ha
   unfold chA
   split
   ·rename_i hcond
    have hk : a.l.toNat < P.q.hs.length := by omega
    have hl := h.i.q.hl _ (List.getElem_mem hk)
    rw [List.getD_eq_getElem?_getD, List.getElem?_eq_getElem hk]
    have hv : 0 ≤ P.q.vs.getD t (fun _ => 0) a.l := by
     rw [List.getD_eq_getElem?_getD]
     cases hvt : P.q.vs[t]? with
     | none => exact Int.le_refl 0
     | some f => exact (h.i.q.vl f (List.mem_of_getElem? hvt) a.l).1
    show (chN (P.q.hs[a.l.toNat]).length _).toNat ≤ 8
    unfold chN
    have := hl.1
    omega
   ·omega
 have := stp_len hc P.cs.length
 have h3 := cs_len P
 have h4 := h.i.rt
 have e : (stpE E59 P).length = (stpTo P.cs P.cs.length).length := rfl
 omega
theorem held_in (h : Held B0 L n W V P) (hn : n ≤ 7) {s : Nat × Nat} (hs : s ∈ stpE E59 P) : inS s := by
 obtain ⟨h1, h2⟩ := stpE_iff.1 hs
 have h3 := h.i.rt
 have h4 := ch_le (h.fit oM) s.1
 exact ⟨by omega, by omega⟩
end
section
variable {b1 b2 : Nat} {G : Nat → Prop} {w w' : World}
theorem RKept.box {C : Nat} {cs : List Value} (h : RKept b1 b2 G w w') (hx : BoxC C cs w) (h1 : C ≠ b1) (h2 : C ≠ b2) (h3 : ¬ G C) : BoxC C cs w' :=
 ⟨fun j u hj => (World.cell?_of_block (a := ⟨C, j, none⟩) (h.block C hx.2.2 h1 h2 h3)).trans (hx.1 j u hj), fun o => (World.frozen?_of_block (a := ⟨C, o, none⟩) (h.block C hx.2.2 h1 h2 h3)).trans (hx.2.1 o), Nat.lt_of_lt_of_le hx.2.2 h.size⟩
end
structure RIn (L : Nat) (rs : List RowP) (P : PW) (Z : DataW Unit) (Sn1 : List UInt8 → List (DataW Unit)) (F1 : DataW Unit) (B k : Nat) (l : List (Nat × Nat)) (Sn : List UInt8 → List (DataW Unit)) (F : DataW Unit) : Prop where
 ms : ∀ x Z', Z' ∈ Sn1 x → Z' ∈ Sn x
 ns : ∀ x Z', Z' ∈ Sn x → Z' ∈ Sn1 x ∨ ∃ s ∈ stpE E59 P, ∃ y ∈ TE E59 PW.rk (P.next s), y.keyP = x
 mf : ∀ x, has F1 (.string x) = true → has F (.string x) = true
 nf : ∀ x, has F (.string x) = true → has F1 (.string x) = true ∨ outsP P x
 cl : ∀ y, OkW L rs y → y.rk + 1 ≤ P.rk → ∀ Z' ∈ Sn y.keyP, DC y (hasS Z') F
 ds : ∀ o ∈ l.take k, DS P (hasS Z) F o
 c1 : ∀ x, (Sn x).length ≤ (Sn1 x).length + k * B
 c2 : Maps.size F ≤ Maps.size F1 + k * B
structure RDone (L : Nat) (rs : List RowP) (P : PW) (Z : DataW Unit) (B : Nat) (Sn : List UInt8 → List (DataW Unit)) (F : DataW Unit) (Sn' : List UInt8 → List (DataW Unit)) (F' : DataW Unit) : Prop where
 l : LeftR L rs (fun y => y ∈ TE E59 PW.rk P) (outsP P) P.rk Sn F Sn' F'
 dc : DC P (hasS Z) F'
 c1 : ∀ x, (Sn' x).length ≤ (Sn x).length + B
 c2 : Maps.size F' ≤ Maps.size F + B
section
variable {L : Nat} {rs : List RowP} {P : PW} {Z Zs Lk : DataW Unit} {Sn1 Sn Sn' : List UInt8 → List (DataW Unit)} {F1 F F' : DataW Unit} {B k : Nat} {l : List (Nat × Nat)} {s : Nat × Nat}
theorem take_snoc (hs : l[k]? = some s) : l.take (k + 1) = l.take k ++ [s] := by
 rw [List.take_add_one, hs]
 rfl
theorem RIn.sleeps (h : RIn L rs P Z Sn1 F1 B k l Sn F) (hl : l = stpE E59 P) (hs : l[k]? = some s) (hz : hasS Z s ∨ s ∈ l.take k) : RIn L rs P Z Sn1 F1 B (k + 1) l Sn F :=
 ⟨h.ms, h.ns, h.mf, h.nf, h.cl, fun o ho => by
  rw [take_snoc hs] at ho
  rcases List.mem_append.1 ho with ho | ho
  ·exact h.ds o ho
  ·rw [List.mem_singleton] at ho
   subst ho
   exact hz.elim (fun hz => ds_sleeps (by rw [← hl]; exact List.mem_of_getElem? hs) hz) (h.ds _), fun x => by have := h.c1 x; rw [Nat.succ_mul]; omega, by have := h.c2; rw [Nat.succ_mul]; omega⟩
theorem RIn.follows (hok : OkW L rs P) (h : RIn L rs P Z Sn1 F1 B k l Sn F) (hl : l = stpE E59 P) (hs : l[k]? = some s) (hin2 : ∀ o ∈ stpE E59 (P.next s), inS o) (hZin : ∀ o, inS o → hasS Z o → o ∈ l) (hLk : ∀ o, inS o → (hasS Lk o ↔ hasS Z o ∨ o ∈ l.take k)) (hZs : ∀ o, inS o → (hasS Zs o ↔ hasS Lk o ∧ indS P s o)) (hd : RDone L rs (P.next s) Zs B Sn F Sn' F') : RIn L rs P Z Sn1 F1 B (k + 1) l Sn' F' := by
 have hsm : s ∈ stpE E59 P := by rw [← hl]; exact List.mem_of_getElem? hs
 obtain ⟨g1, g2⟩ := (alike59 L rs).next hok hsm
 have g3 : (P.next s).rk + 1 = P.rk := g2
 have hsub : ∀ o, inS o → hasS Lk o → o ∈ stpE E59 P ∧ (hasS Z o ∨ o ∈ l.take k) := fun o ho hh => by
  have q := (hLk o ho).1 hh
  refine ⟨?_, q⟩
  rw [← hl]
  rcases q with q | q
  ·exact hZin o ho q
  ·exact List.mem_of_mem_take q
 refine ⟨fun x Z' hz => hd.l.ms x Z' (h.ms x Z' hz), fun x Z' hz => ?_, fun x hx => hd.l.mf x (h.mf x hx), fun x hx => ?_, fun y hy hr Z' hz => ?_, fun o ho => ?_, fun x => ?_, ?_⟩
 ·rcases hd.l.ns x Z' hz with h1 | ⟨y, hy, e⟩
  ·exact h.ns x Z' h1
  ·exact .inr ⟨s, hsm, y, hy, e⟩
 ·rcases hd.l.nf x hx with h1 | ⟨y, hy, hz, e⟩
  ·exact h.nf x h1
  ·exact .inr ((outsP_all hok).2 (.inr ⟨s, hsm, y, hy, hz, e⟩))
 ·exact hd.l.cl y hy oM Z' hz
 ·rw [take_snoc hs] at ho
  rcases List.mem_append.1 ho with ho | ho
  ·exact (h.ds o ho).mono hd.l.mf
  ·rw [List.mem_singleton] at ho
   subst ho
   refine ds_step (Lf := fun o => inS o ∧ hasS Lk o) (Zs := fun o => inS o ∧ hasS Zs o) (d := l.take k) hok hsm (fun o ho => hsub o ho.1 ho.2) h.ds hd.l.mf (fun o ho => ⟨⟨ho.1, ((hZs o ho.1).1 ho.2).1⟩, ((hZs o ho.1).1 ho.2).2⟩) ?_
   intro x hx
   refine (hd.dc x hx).imp_right (fun ⟨z, q1, q2, q3⟩ => ⟨z, ⟨?_, q1⟩, q2, q3⟩)
   exact hin2 z q2
 ·have a1 := h.c1 x
  have a2 := hd.c1 x
  rw [Nat.succ_mul]
  omega
 ·have a1 := h.c2
  have a2 := hd.c2
  rw [Nat.succ_mul]
  omega
end
end Go.Proofs.YtnnmenmifphadaaGreatDoor
namespace Go.Proofs.YtnnmenmifphadaaGreatDoor
open Go.RowKit Go.Maps Go.Sort
set_option maxRecDepth 100000
theorem wp_append_1 {P : Program} {o : Oper} {a : Act} {w : World} {K : Act → World → Prop} {Q : Exit → Act → World → Prop} (s x : Operand) (t : TypeId)
  (ho : o.op = .call { callee := .builtin .append, args := #[s, x], argTypes := #[t, t] })
  (e : TypeId) (i : TypeInfo) (z : Value) (bytes : Nat) (ht : P.underlying t = some (.slice e)) (hi : P.info? e = some i) (hz : i.zero = some z)
  (hsize : i.size = 1) (hby : i.bytes = bytes) (hzs : z.cells.size = 1) (v : Value) (n : Nat) (xs : List Value) (hs : a.eval s = v) (hown : w.ownsRow 0 e 1 v n xs)
  (ad : Addr) (c : Nat) (u : Value) (hx : a.eval x = .slice (some ad) 1 c) (hu : w.cell? ad = some u) (h1 : u.oneCell' = true)
  (h63 : n + 1 ≤ maxLen) (hbytes : (n + 1) * bytes ≤ 140737488355328)
  (h : ∀ g' c' w', Hid (w'.ownsRow 0 e 1 (.slice (some ⟨g', 0, none⟩) (n + 1) c') (n + 1) (xs ++ [u])) → Hid (AppAt (fun _ => True) v g' w w') → K (a.put o.dst (.slice (some ⟨g', 0, none⟩) (n + 1) c')) w') :
  Oper.wp P o a w K Q := by
 obtain ⟨g', c', w', hrun, h2, h3⟩ := run_append_1 (P := P) w t o.type e i z bytes ht hi hz hsize hby hzs v n xs hown ad c u hu h1 h63 hbytes
 unfold Oper.wp
 simp [execOp, ho, resolve, invoke, builtin, hs, hx, hrun, Result.andThen]
 exact h g' c' w' h2 h3
theorem AppAt.ne {G : Nat → Prop} {v : Value} {g b : Nat} {w w' : World} (h : AppAt G v g w w') (hb : ∃ es c, w.heap[b]? = some (.map es c)) : some b ≠ some g := fun e => by
 injection e with e
 subst e
 obtain ⟨es, cc, hb⟩ := hb
 rcases h with ⟨_, e', cur, cur', q2, _⟩ | ⟨q2, _⟩
 ·rw [hb] at q2; cases q2
 ·have := (Array.getElem?_eq_some_iff.1 hb).1
  omega
theorem AppAt.any {G G' : Nat → Prop} {v : Value} {g : Nat} {w w' : World} (h : AppAt G v g w w') : AppAt G' v g w w' := h
theorem slcE_dec {v : Value} {d : DataW Unit} {ps : List MemPlace} (h : slcE v = some (d, ps)) : v = decH d := by
 unfold slcE at h
 split at h
 ·simp only [Option.some.injEq, Prod.mk.injEq] at h
  obtain ⟨rfl, _⟩ := h
  simp [decH, encH]
 ·simp only [Option.some.injEq, Prod.mk.injEq] at h
  obtain ⟨rfl, _⟩ := h
  rfl
 ·cases h
def SB (kb b1 : Nat) (D : DataW Unit) (w : World) : Prop := w.cell? ⟨kb, 1, none⟩ = some (.map (some b1)) ∧ w.ownsMap Tryz.prog 9 slcE b1 (Maps.size D) D
theorem SB.look {kb b1 : Nat} {D : DataW Unit} {w : World} (h : SB kb b1 D w) {k : List UInt8} (hk : keyOf Tryz.prog 9 (.string ⟨k.toArray⟩) = some (.string k)) : (Instr.lookup 134 (.map (some b1)) (.string ⟨k.toArray⟩) false).run Tryz.prog w = .ok (seenV D k) w := by
 obtain ⟨v, ps, hrun, hv⟩ := h.2.lookup (string_keyed Tryz.underlying9) Tryz.underlying134 (zero_slc w) (zd := .lit (.bool true)) (zp := []) rfl hk
 rw [hrun, slcE_dec hv]
 rfl
theorem SB.below {kb b1 : Nat} {D : DataW Unit} {w w' : World} (h : SB kb b1 D w) (hkb : kb < w.heap.size) (hb : Below w.heap.size w w') : SB kb b1 D w' := ⟨(hb.cell (p := ⟨kb, 1, none⟩) hkb).trans h.1, h.2.kept (grown_of_below hb none) sM⟩
theorem RWalk.sb {kb b1 b2 : Nat} {most : Int} {G X : Nat → Prop} {Sn : List UInt8 → List (DataW Unit)} {D F : DataW Unit} {w : World} (h : RWalk kb b1 b2 most G X Sn D F w) : SB kb b1 D w := ⟨h.c1, h.s.o⟩
theorem SB.app {G : Nat → Prop} {kb b1 g : Nat} {D : DataW Unit} {v : Value} {w w' : World} (h : SB kb b1 D w) (ha : AppAt G v g w w') (hkb : kb < w.heap.size) (hne : kb ≠ g) : SB kb b1 D w' := by
 obtain ⟨es, cc, hm, _⟩ := h.2
 exact ⟨(World.cell?_of_block (a := ⟨kb, 1, none⟩) (ha.grown.block kb hkb (by intro e; injection e with e; exact hne e))).trans h.1, h.2.kept ha.grown (ha.ne ⟨es, cc, hm⟩)⟩
theorem cell1 (w : World) (x : Value) (t : TypeId) : (w.alloc (.cells #[x] t)).cell? ⟨w.heap.size, 0, none⟩ = some x := by
 have := (BoxC.made w #[x] t).at (j := 0) (u := x) rfl
 exact this
theorem cell1d (w : World) (x : Value) (t : TypeId) : ((w.alloc (.cells #[x] t)).drew).cell? ⟨w.heap.size, 0, none⟩ = some x := cell1 w x t
theorem info_setm : (Tryz.prog.info? 126).map (fun i => (i.zero, i.size, i.bytes)) = some (some (.map none), 1, 8) := by kernel_rfl
theorem pow_room {a b c l k r : Nat} (hl : l ≤ 24) (hk : k < l) (hr : 1 ≤ r) (h1 : a ≤ b + k * 25 ^ (r - 1)) (h2 : b ≤ c + 1) (h3 : c + 25 ^ r ≤ 25 ^ 7) : a + 25 ^ (r - 1) ≤ 25 ^ 7 := by
 obtain ⟨r', rfl⟩ : ∃ r', r = r' + 1 := ⟨r - 1, by omega⟩
 rw [Nat.add_sub_cancel] at h1 ⊢
 rw [Nat.pow_succ] at h3
 have h4 : 1 ≤ 25 ^ r' := Nat.one_le_pow _ _ dM
 have h5 : (k + 1) * 25 ^ r' ≤ 24 * 25 ^ r' := Nat.mul_le_mul_right _ oM
 rw [Nat.succ_mul] at h5
 generalize 25 ^ r' = p at *
 generalize k * p = q at *
 generalize 25 ^ 7 = z at *
 omega
theorem ex_some (kb b1 b2 L : Nat) (rs : List RowP) (most : Int) (hm : most ≤ 100000) : ∀ (r B0 n : Nat) (P : PW) (V : WorldV) (m : Nat) (Z : DataW Unit) (G X : Nat → Prop) (Sn : List UInt8 → List (DataW Unit)) (D F : DataW Unit) (w : World), P.rk = r → n + r ≤ 7 → Held B0 L n w V P → P.Of L rs → (∀ b ∈ P.ss, b = false) → (B0 ≤ b1 ∧ B0 ≤ b2 ∧ ∀ g, G g → B0 ≤ g) → (V.off b1 ∧ V.off b2 ∧ ∀ g, G g → V.off g) → RWalk kb b1 b2 most G X Sn D F w → (∀ x, X x → x < w.heap.size) → SetM m Z w → (m ≠ b1 ∧ m ≠ b2) → (∀ o, inS o → hasS Z o → o ∈ stpE E59 P) → ClR L rs r Sn F → (∀ k, (Sn k).length + 25 ^ r ≤ 25 ^ 7) → (Maps.size D : Int) ≤ most → Maps.size F + 25 ^ r ≤ 25 ^ 7 →
  Calls Tryz.prog 51 #[.pointer (some ⟨kb, 0, none⟩), (woV V), .map (some m)] w fun e w' => ∃ (ok : Bool) (G' X' : Nat → Prop) (Sn' : List UInt8 → List (DataW Unit)) (D' F' : DataW Unit), e = .returned (.bool ok) ∧ RWalk kb b1 b2 most G' X' Sn' D' F' w' ∧ (∀ g, G' g → G g ∨ w.heap.size ≤ g) ∧ (∀ x, X' x → (X x ∨ x = m ∨ w.heap.size ≤ x) ∧ x < w'.heap.size) ∧ RKept b1 b2 G w w' ∧ (ok = true → RDone L rs P Z (25 ^ r) Sn F Sn' F' ∧ (Maps.size D' : Int) ≤ most ∧ 0 < Maps.size D') := by
 intro r
 induction r using Nat.strongRecOn with
 | ind r ih =>
 intro B0 n P V m Z G X Sn D F w hr hn hH hOf hns hB hoff hW hX hZ hmb hZin hCl hc1 hmost hc2
 obtain ⟨i0, hi, iz0, iz1, iz2⟩ := info_parts info_setm
 have hi := hide hi
 have iz0 := hide iz0
 have iz1 := hide iz1
 have iz2 := hide iz2
 have hcount : (Sn P.keyP).length ≤ 6103515625 := Nat.le_trans (Nat.le_add_right _ _) (hc1 P.keyP)
 obtain ⟨w1, hw1⟩ : ∃ W : World, W = w.alloc (.cells #[.slice V.M.mem.pA V.M.mem.hs.length V.M.mem.pc, .slice V.M.mem.vA V.M.mem.vs.length V.M.mem.vc, .slice V.M.ln.fA V.M.ln.first.length V.M.ln.fc, .slice V.M.ln.lA V.M.ln.logs.length V.M.ln.lc, .map V.M.ln.asks, .slice V.M.sA V.M.steps.length V.M.sc, .int .i64 V.M.crashes, .slice V.tA V.ts.length V.tc, .slice V.sA V.ss.length V.sc] 40) := ⟨_, rfl⟩
 have hb1 : Below w.heap.size w w1 := by rw [hw1]; exact Below.alloc (Below.refl _ _) (Nat.le_refl _) _
 have hx1 : BoxC w.heap.size (wol V) w1 := by rw [hw1]; exact BoxC.made w #[.slice V.M.mem.pA V.M.mem.hs.length V.M.mem.pc, .slice V.M.mem.vA V.M.mem.vs.length V.M.mem.vc, .slice V.M.ln.fA V.M.ln.first.length V.M.ln.fc, .slice V.M.ln.lA V.M.ln.logs.length V.M.ln.lc, .map V.M.ln.asks, .slice V.M.sA V.M.steps.length V.M.sc, .int .i64 V.M.crashes, .slice V.tA V.ts.length V.tc, .slice V.sA V.ss.length V.sc] 40
 have hs1 : w1.heap.size = w.heap.size + 1 := by rw [hw1]; simp
 have hkl : keyOf Tryz.prog 9 (.string ⟨P.keyP.toArray⟩) = some (.string P.keyP) := key_of _ (key_short hH.i (by have := hH.l; omega) oM oM)
 have hkey := fun W (hW : Below w1.heap.size w1 W) => held_key (hH.below (hb1.trans (hW.mono hb1.size))) oM
 have hkn := fun W (hW2 : Below w1.heap.size w1 W) => ex_known W ((hW.below hb1).below hW2) P.keyP hkl m Z ((hZ.below hb1).below hW2) oM
 have hOK : OkW L rs P := ⟨⟨n, hH.i⟩, hOf⟩
 have HOK := hide hOK
 have IH := hide ih
 have HH := hide hH
 have HOf := hide hOf
 have Hns := hide hns
 have HB := hide hB
 have Hoff := hide hoff
 have HW := hide hW
 have HX := hide hX
 have HZ := hide hZ
 have Hmb := hide hmb
 have HZin := hide hZin
 have HCl := hide hCl
 have Hc1 := hide hc1
 have Hc2 := hide hc2
 have Hr := hide hr
 have Hkl := hide hkl
 have Hkey := hide hkey
 have Hkn := hide hkn
 have HB1 := hide hb1
 have HX1 := hide hx1
 have Hm := hide hm
 have Hmost := hide hmost
 have Hcount := hide hcount
 have hkb : kb < w.heap.size := hW.kl
 have hb1l : b1 < w.heap.size := hW.s.o.lt
 have hb2l : b2 < w.heap.size := hW.f.lt
 clear ih hH hOf hns hB hoff hW hX hZ hmb hZin hCl hc1 hc2 hr hkl hkey hkn hb1 hx1 hOK hm hmost hcount
 go_enter Tryz.func51, Tryz.ntmps51
 go_upto_region 1 with fail
 rw [← hw1]
 obtain ⟨C, hC⟩ : ∃ c, c = w.heap.size := ⟨_, rfl⟩
 have HCw := hide hC
 rw [← hC] at HX1 hs1 hkb hb1l hb2l ⊢
 obtain ⟨y0, y1, y2, y3, y4, y5, y6, y7, y8, yf⟩ := box9 HX1.out
 have hC1 : C < w1.heap.size := HX1.out.2.2
 have hBr : Below w1.heap.size w1 w1 := Below.refl _ _
 clear hw1 hC hs1
 go_upto_if 17 with (first
  | (go_at_call 15; refine (Hkey.out _ (by first | with_reducible assumption | exact ab0)).mono ?_; rintro e w2 ⟨rfl, hb2⟩; have hs2 := hb2.size)
  | (go_at_call 85; refine (Hkn.out _ (by first | with_reducible assumption | exact ab0)).mono ?_; rintro e w3 ⟨rfl, hb3⟩; have hs3 := hb3.size))
 have hb13 : Below w1.heap.size w1 w3 := hb2.trans (hb3.mono hs2)
 have HB3 := hide hb13
 have HX3 := hide (HX1.out.below hb13)
 have HW3 := hide ((HW.out.below HB1.out).below hb13)
 have HB03 := hide (HB1.out.trans (hb13.mono HB1.out.size))
 have hC3 : C < w3.heap.size := by omega
 clear hb2 hb3 hb13 hs2 hs3 y0 y1 y2 y3 y4 y5 y6 y7 y8 yf hBr Hkey Hkn
 cases hk : knownB Sn P.keyP Z with
 | true =>
  have hdc : DC P (hasS Z) F := fun x hx => by
   obtain ⟨old, ho, hs⟩ := List.any_eq_true.1 hk
   refine (HCl.out P HOK.out (by rw [Hr.out]; exact Nat.le_refl _) old ho x hx).imp_right (fun ⟨z, q1, q2, q3⟩ => ⟨z, subB_iff.1 hs z (held_in HH.out oM q2) q1, q2, q3⟩)
  have hdone : RDone L rs P Z (25 ^ r) Sn F Sn F := by
   refine ⟨⟨fun _ _ h => h, fun _ _ h => .inl h, fun _ h => h, fun _ h => .inl h, ?_⟩, hdc, fun x => Nat.le_add_right _ _, Nat.le_add_right _ _⟩
   rw [Hr.out]
   exact HCl.out
  have hpos : 0 < Maps.size D := by
   obtain ⟨old, ho, hs⟩ := List.any_eq_true.1 hk
   cases hh : has D (.string P.keyP) with
   | true =>
    rw [← (strT_owns HW.out.s.o).len]
    exact List.length_pos_of_mem (((strT_owns HW.out.s.o).mem _).2 hh)
   | false =>
    rw [HW.out.s.no _ hh] at ho
    cases ho
  have Hdone := hide hdone
  have Hpos := hide hpos
  clear hdc hdone hpos hk
  go_wp2_with fail
  exact bodyPost_ret (v := .bool true) (by simp [results, Tryz.results51, go_sem]) rfl ⟨true, G, X, Sn, D, F, rfl, HW3.out, fun _ h => .inl h, fun x h => ⟨.inl h, Nat.lt_of_lt_of_le (HX.out x h) HB03.out.size⟩, .of HB03.out, fun _ => ⟨Hdone.out, Hmost.out, Hpos.out⟩⟩
 | false =>
  obtain ⟨zs, hrun, hrow, hrx, hrz, hrv⟩ := HW3.out.s.look Hkl.out
  have hzl : zs.length ≤ 6103515625 := by
   have q := Hcount.out
   rw [← hrz, List.length_map] at q
   exact q
  have Hrow := hide hrow
  have Hrx := hide hrx
  have Hrz := hide hrz
  have Hrv := hide hrv
  have HZ3 := hide (HZ.out.below HB03.out)
  clear hrun hrow hrx hrz hrv hk
  go_wp2_with fail
  have hSB : SB kb b1 D w3 := HW3.out.sb
  have hkb3 : kb < w3.heap.size := HW3.out.kl
  have hsz0 : Maps.size D ≤ 100000 := by have := Hmost.out; have := Hm.out; omega
  have hc1 : w3.cell? ⟨kb, 1, none⟩ = some (.map (some b1)) := hSB.1
  go_cut [31] from 18 to 31 (fun _ wx => ∃ (g4 c4 : Nat), Hid (RWalk kb b1 b2 most (fun g => G g ∨ g = g4) (fun x => X x ∨ x = m) (addZ Sn P.keyP Z) (D.put (.string P.keyP) (encH g4 (zs.length + 1) c4)) F wx) ∧ Hid (RKept b1 b2 G w3 wx) ∧ Hid (G g4 ∨ w3.heap.size ≤ g4))
  case first =>
   refine wp_region_held_drew (S := (fun W => W.cell? ⟨kb, 1, none⟩ = some (.map (some b1)))) kR ab12 (fun hHeld => ?_)
   refine tq7 0 ?_
   refine tq7 1 ?_
   refine tq7 2 ?_
   refine tq7 3 ?_
   refine tq7 4 ?_
   refine tq7 5 ?_
   refine tq7 6 ?_
   refine tq7 7 ?_
   refine tq7 8 ?_
   refine tq7 9 ?_
   refine tq7 11 ?_
   refine wR (rs := [10, 12]) ?_
   focus
    refine aI (fun K hK => ?_) (aE fun K hK => ?_)
    focus
     go_simp
     (first | rw [hSB.look Hkl.out] | rw [(hSB.below hkb3 (Below.drew (Below.refl _ _))).look Hkl.out] | rw [(hSB.below hkb3 (Below.alloc (Below.refl _ _) (Nat.le_refl _) _)).look Hkl.out] | rw [(hSB.below hkb3 (Below.drew (Below.alloc (Below.refl _ _) (Nat.le_refl _) _))).look Hkl.out] | rw [(hSB.below hkb3 (Below.alloc (Below.drew (Below.refl _ _)) (Nat.le_refl _) _)).look Hkl.out]); go_simp
     go_wp2_with fail
     refine oK hK ab12 fun hHeld => ?_
     clear hK K
     refine wE 12 fun K hK => ?_
     go_simp
     go_wp2_with fail
     refine oK hK ab12 fun hHeld => ?_
     clear hK K
     refine wE 13 fun K hK => ?_
     refine wp_append_1 (.tmp 28) (.tmp 30) 141 rfl 126 i0 (.map none) 8 Tryz.underlying141 hi.out iz0.out iz1.out iz2.out rfl (seenV D P.keyP) zs.length (mapV zs) (by simp [Act.eval, Act.put]) (Hrow.out.below ab0).r ⟨w3.heap.size, 0, none⟩ 1 (.map (some m)) (by simp [Act.eval, Act.put]) (by first | exact cell1 _ _ _ | exact cell1d _ _ _) rfl (by unfold maxLen; omega) oM ?_; intro g4 c4 w4 hown4 hat4; (obtain ⟨Wa, hAt, hBa⟩ : ∃ W, Hid (AppAt (fun _ => True) (seenV D P.keyP) g4 W w4) ∧ Below w3.heap.size w3 W := ⟨_, hat4, ab0⟩); clear hat4; have hkg : kb ≠ g4 := (by rcases hAt.out with ⟨q, _⟩ | ⟨q, _⟩; exact (fun e => HW3.out.g g4 (Hrv.out g4 q).1 e.symm); (have := hBa.size; omega)); have hS4 : SB kb b1 D w4 := (hSB.below hkb3 hBa).app hAt.out (Nat.lt_of_lt_of_le hkb3 hBa.size) hkg; have hS4c := hS4.1
     (try go_simp)
     go_wp2_with fail
     refine oK hK ab12 fun hHeld => ?_
     clear hK K
     refine wE 14 fun K hK => ?_
     go_simp
     (obtain ⟨w5, hrun5, hown5, hg5⟩ := hS4.2.update (string_keyed Tryz.underlying9) Tryz.underlying134 (by unfold maxLen; omega) Hkl.out (show slcE (.slice (some ⟨g4, 0, none⟩) (zs.length + 1) c4) = some (encH g4 (zs.length + 1) c4, []) from rfl); rw [hrun5]; go_simp; have hS5 : w5.cell? ⟨kb, 1, none⟩ = some (.map (some b1)) := (World.cell?_of_block (a := ⟨kb, 1, none⟩) (hg5.block kb (by have := hBa.size; have := hAt.out.grown.size; omega) (by intro e; injection e with e; exact HW3.out.n.2.1 e))).trans hS4.1)
     go_wp2_with fail
     refine oK hK ab12 fun hHeld => ?_
     clear hK K
     refine wD ?_
    rotate_left 1
    focus
     go_simp
     go_wp2_with fail
     refine oK hK ab12 fun hHeld => ?_
     clear hK K
     refine wE 10 fun K hK => ?_
     go_simp
     (first | rw [hSB.look Hkl.out] | rw [(hSB.below hkb3 (Below.drew (Below.refl _ _))).look Hkl.out] | rw [(hSB.below hkb3 (Below.alloc (Below.refl _ _) (Nat.le_refl _) _)).look Hkl.out] | rw [(hSB.below hkb3 (Below.drew (Below.alloc (Below.refl _ _) (Nat.le_refl _) _))).look Hkl.out] | rw [(hSB.below hkb3 (Below.alloc (Below.drew (Below.refl _ _)) (Nat.le_refl _) _)).look Hkl.out]); go_simp
     go_wp2_with fail
     refine oK hK ab12 fun hHeld => ?_
     clear hK K
     refine wE 13 fun K hK => ?_
     refine wp_append_1 (.tmp 28) (.tmp 30) 141 rfl 126 i0 (.map none) 8 Tryz.underlying141 hi.out iz0.out iz1.out iz2.out rfl (seenV D P.keyP) zs.length (mapV zs) (by simp [Act.eval, Act.put]) (Hrow.out.below ab0).r ⟨w3.heap.size, 0, none⟩ 1 (.map (some m)) (by simp [Act.eval, Act.put]) (by first | exact cell1 _ _ _ | exact cell1d _ _ _) rfl (by unfold maxLen; omega) oM ?_; intro g4 c4 w4 hown4 hat4; (obtain ⟨Wa, hAt, hBa⟩ : ∃ W, Hid (AppAt (fun _ => True) (seenV D P.keyP) g4 W w4) ∧ Below w3.heap.size w3 W := ⟨_, hat4, ab0⟩); clear hat4; have hkg : kb ≠ g4 := (by rcases hAt.out with ⟨q, _⟩ | ⟨q, _⟩; exact (fun e => HW3.out.g g4 (Hrv.out g4 q).1 e.symm); (have := hBa.size; omega)); have hS4 : SB kb b1 D w4 := (hSB.below hkb3 hBa).app hAt.out (Nat.lt_of_lt_of_le hkb3 hBa.size) hkg; have hS4c := hS4.1
     (try go_simp)
     go_wp2_with fail
     refine oK hK ab12 fun hHeld => ?_
     clear hK K
     refine wE 14 fun K hK => ?_
     go_simp
     (obtain ⟨w5, hrun5, hown5, hg5⟩ := hS4.2.update (string_keyed Tryz.underlying9) Tryz.underlying134 (by unfold maxLen; omega) Hkl.out (show slcE (.slice (some ⟨g4, 0, none⟩) (zs.length + 1) c4) = some (encH g4 (zs.length + 1) c4, []) from rfl); rw [hrun5]; go_simp; have hS5 : w5.cell? ⟨kb, 1, none⟩ = some (.map (some b1)) := (World.cell?_of_block (a := ⟨kb, 1, none⟩) (hg5.block kb (by have := hBa.size; have := hAt.out.grown.size; omega) (by intro e; injection e with e; exact HW3.out.n.2.1 e))).trans hS4.1)
     go_wp2_with fail
     refine oK hK ab12 fun hHeld => ?_
     clear hK K
     refine wD ?_
    rotate_left 1
   all_goals have hne1 := hAt.out.ne (b := b1) (by obtain ⟨es, cc, q, _⟩ := (HW3.out.s.o.kept (grown_of_below hBa none) sM); exact ⟨es, cc, q⟩)
   all_goals have hne2 := hAt.out.ne (b := b2) (by obtain ⟨es, cc, q, _⟩ := (HW3.out.f.kept (grown_of_below hBa none) sM); exact ⟨es, cc, q⟩)
   all_goals have hWa := HW3.out.below hBa
   all_goals have hseen := hWa.s.add (Hrow.out.below hBa) Hrx.out Hrz.out Hrv.out hown4.out hAt.out.any (HZ3.out.below hBa) Hmb.out.1 Hmb.out.2 hown5 hg5
   all_goals have hgr := hAt.out.grown
   all_goals have hkbo : w5.heap[kb]? = some (.cells #[.int .i64 most, .map (some b1), .map (some b2)] 136 (0, 0)) := (hg5.block kb (by have := hBa.size; have := hgr.size; omega) (by intro e; injection e with e; exact HW3.out.n.2.1 e)).trans ((hgr.block kb (by have := hBa.size; omega) (by intro e; injection e with e; exact hkg e)).trans hWa.k)
   all_goals have hf5 := (hWa.f.kept hgr hne2).kept hg5 (by intro e; injection e with e; exact HW3.out.n.1 e.symm)
   all_goals have hWn := hide (show RWalk kb b1 b2 most (fun g => G g ∨ g = g4) (fun x => X x ∨ x = m) (addZ Sn P.keyP Z) (D.put (.string P.keyP) (encH g4 (zs.length + 1) c4)) F w5 from ⟨hkbo, HW3.out.n, hseen, hf5, fun g hg => hg.elim (HW3.out.g g) (fun e e2 => hkg (by rw [← e2, e]))⟩)
   all_goals have hKn := hide (show RKept b1 b2 G w3 w5 from ((RKept.of hBa).trans (hAt.out.any.kept (b1 := b1) (b2 := b2) (G := G) (fun g hg => (Hrv.out g hg).1)) (fun g hg => .inl hg)).trans (.put1 hg5 (StrM.of hS4.2)) (G1 := G) (fun g hg => .inl hg))
   all_goals have hGn := hide (show G g4 ∨ w3.heap.size ≤ g4 by rcases hAt.out with ⟨q, _⟩ | ⟨q, _⟩; exact .inl (Hrv.out g4 q).1; exact .inr (by have := hBa.size; omega))
   all_goals clear hne1 hne2 hWa hseen hgr hkbo hf5 hown4 hAt hBa hown5 hg5 hS4 hS4c hS5 hkg
   all_goals go_wp2_with fail
   all_goals go_meet
   all_goals exact ⟨g4, c4, hWn, hKn, hGn⟩
  case rest =>
   obtain ⟨w5, hw5⟩ : ∃ W : World, W = wc := ⟨_, rfl⟩
   subst hw5
   obtain ⟨g4, c4, HW5, HK5, HG4⟩ := hcut
   obtain ⟨D1, hD1⟩ : ∃ d, d = D.put (.string P.keyP) (encH g4 (zs.length + 1) c4) := ⟨_, rfl⟩
   rw [← hD1] at HW5
   have hs35 := HK5.out.size
   have hD1s : Maps.size D1 ≤ Maps.size D + 1 ∧ 0 < Maps.size D1 := by
    rw [hD1, Maps.size_put (HW3.out.s.o.tidy (string_keyed Tryz.underlying9))]
    split
    ·rename_i hh
     refine ⟨by omega, ?_⟩
     rw [← (strT_owns HW3.out.s.o).len]
     exact List.length_pos_of_mem (((strT_owns HW3.out.s.o).mem _).2 hh)
    ·omega
   have HD1s := hide hD1s
   have HK05 := hide ((RKept.of HB03.out).trans HK5.out (G := G) (fun g hg => .inl hg))
   have HGn := hide (show ∀ g, (G g ∨ g = g4) → G g ∨ w.heap.size ≤ g from fun g hg => hg.elim .inl (fun e => HG4.out.elim (fun h => .inl (e ▸ h)) (fun h => .inr (by rw [e]; exact Nat.le_trans HB03.out.size h))))
   have HXn := hide (show ∀ x, (X x ∨ x = m) → (X x ∨ x = m ∨ w.heap.size ≤ x) ∧ x < w5.heap.size from fun x hx => hx.elim (fun h => ⟨.inl h, by have := HX.out x h; have := HB03.out.size; omega⟩) (fun h => ⟨.inr (.inl h), by have := HZ.out.1.lt; have := HB03.out.size; omega⟩))
   clear hD1 hD1s hSB hkb3 hsz0 hc1 Hrow Hrx Hrz Hrv hzl
   by_cases hover : most < (Maps.size D1 : Int)
   ·have hov2 : decide (most < (Maps.size D1 : Int)) = true := decide_eq_true hover
    go_wp2_with fail
    refine wp_region_held_drew (S := (fun W => RWalk kb b1 b2 most (fun g => G g ∨ g = g4) (fun x => X x ∨ x = m) (addZ Sn P.keyP Z) D1 F W)) kR (by first | with_reducible exact HW5.out | with_reducible exact HW5.out.below (Below.drew (Below.refl _ _)) | with_reducible exact hHeld) (fun hHeld => ?_)
    refine tq8 0 ?_
    refine tq8 1 ?_
    refine tq8 2 ?_
    refine tq8 3 ?_
    refine tq8 4 ?_
    refine tq8 5 ?_
    refine tq8 6 ?_
    refine tq8 7 ?_
    refine tq8 8 ?_
    refine tq8 9 ?_
    refine wD ?_
    go_wp2_with fail
    exact bodyPost_ret (v := .bool false) (by simp [results, Tryz.results51, go_sem]) rfl ⟨false, _, _, _, D1, F, rfl, HW5.out.below (Below.drew (Below.refl _ _)), HGn.out, HXn.out, HK05.out.trans (RKept.of (Below.drew (Below.refl _ _))) (G1 := G) (fun g hg => .inl hg), (fun e => by cases e)⟩
   ·have hov2 : decide (most < (Maps.size D1 : Int)) = false := decide_eq_false hover
    go_wp2_with fail
    refine wp_region_held_drew (S := (fun W => RWalk kb b1 b2 most (fun g => G g ∨ g = g4) (fun x => X x ∨ x = m) (addZ Sn P.keyP Z) D1 F W)) kR (by first | with_reducible exact HW5.out | with_reducible exact HW5.out.below (Below.drew (Below.refl _ _)) | with_reducible exact hHeld) (fun hHeld => ?_)
    refine tq8 0 ?_
    refine tq8 1 ?_
    refine tq8 2 ?_
    refine tq8 3 ?_
    refine tq8 4 ?_
    refine tq8 5 ?_
    refine tq8 6 ?_
    refine tq8 7 ?_
    refine tq8 8 ?_
    refine tq8 9 ?_
    refine wD ?_
    obtain ⟨w6, hw6⟩ : ∃ W : World, W = w5.drew := ⟨_, rfl⟩
    have hb56 : Below w5.heap.size w5 w6 := by rw [hw6]; exact Below.drew (Below.refl _ _)
    rw [← hw6]
    clear hw6
    have hGC : ¬ (G C ∨ C = g4) := fun hg => by
     rcases hg with hg | hg
     ·have := (HW.out.s.gl C hg).1
      have := HCw.out
      omega
     ·rcases HG4.out with h4 | h4
      ·have := (HW.out.s.gl g4 h4).1
       have := HCw.out
       omega
      ·omega
    have HGC := hide hGC
    have HX6 := hide ((HK5.out.box HX3.out oM oM (fun h => hGC (.inl h))).below hb56)
    have HW6 := hide (HW5.out.below hb56)
    have HK06 := hide (HK05.out.trans (RKept.of hb56) (G1 := G) (fun g hg => .inl hg))
    have HH6 := hide (HK06.out.held _ _ _ _ _ HB.out Hoff.out HH.out)
    have hs56 := hb56.size
    have hst := fun W (hW : Below w6.heap.size w6 W) => held_steps HH6.out HOf.out Hns.out (by have := Hr.out; omega) W hW
    have Hst := hide hst
    have hC6 : C < w6.heap.size := HX6.out.2.2
    obtain ⟨y0, y1, y2, y3, y4, y5, y6, y7, y8, yf⟩ := box9 HX6.out
    have hB66 : Below w6.heap.size w6 w6 := Below.refl _ _
    have Hover := hide hover
    clear hb56 hst hGC hover hov2
    go_upto_region 8 with (first
     | (go_at_call 58; refine (Hst.out _ (by first | with_reducible assumption | exact ab0)).mono ?_; rintro e w7 ⟨v7, rfl, hrow7, hb7⟩; obtain ⟨A7, c7, rfl, _, _⟩ := own_slice hrow7; have Hrow7 := hide hrow7; have Hb7 := hide hb7; have hs7 := hb7.size; clear hrow7 hb7))
    obtain ⟨l, hl⟩ : ∃ l, l = stpE E59 P := ⟨_, rfl⟩
    rw [← hl] at Hrow7 ⊢
    have hl24 : l.length ≤ 24 := by rw [hl]; exact held_few HH6.out oM
    have Hl := hide hl
    have HX7 := hide (HX6.out.below Hb7.out)
    have HW7 := hide (HW6.out.below Hb7.out)
    have HK07 := hide (HK06.out.trans (RKept.of Hb7.out) (G1 := G) (fun g hg => .inl hg))
    have HH7 := hide (HH6.out.below Hb7.out)
    have hC7 : C < w7.heap.size := by omega
    clear hl y0 y1 y2 y3 y4 y5 y6 y7 y8 yf hB66 Hst
    go_upto_if 46 with fail
    obtain ⟨bz, hbz⟩ : ∃ b : Bool, b = ((l.length : Int) == 0) := ⟨_, rfl⟩
    try rw [← hbz]
    have Hbz := hide hbz
    clear hbz
    go_cut [52] from 47 to 52 (fun _ wx => ∃ F1 : DataW Unit, Hid (RWalk kb b1 b2 most (fun g => G g ∨ g = g4) (fun x => X x ∨ x = m) (addZ Sn P.keyP Z) D1 F1 wx) ∧ Hid (RKept b1 b2 G w7 wx) ∧ Hid ((∀ x, has F (.string x) = true → has F1 (.string x) = true) ∧ (∀ x, has F1 (.string x) = true → has F (.string x) = true ∨ outsP P x) ∧ (l = [] → has F1 (.string P.outP) = true) ∧ Maps.size F1 ≤ Maps.size F + 1))
    case first =>
     cases bz with
     | true =>
      have Hl0 : Hid (l = []) := hide (by simpa using Hbz.out.symm)
      have hout := fun W (hW : Below w7.heap.size w7 W) => held_out (HH7.out.below hW) oM
      have Hout := hide hout
      have hklo : keyOf Tryz.prog 9 (.string ⟨P.outP.toArray⟩) = some (.string P.outP) := key_of _ ((HH7.out.fit oM).ol)
      have HklO := hide hklo
      have hszF : Maps.size F ≤ 6103515625 := Nat.le_trans (Nat.le_add_right _ _) Hc2.out
      have hS7 : w7.cell? ⟨kb, 2, none⟩ = some (.map (some b2)) ∧ BoxC C (wol V) w7 := ⟨HW7.out.c2, HX7.out⟩
      have hkb7 : kb < w7.heap.size := HW7.out.kl
      have hSb : ∀ W, Below w7.heap.size w7 W → W.cell? ⟨kb, 2, none⟩ = some (.map (some b2)) ∧ BoxC C (wol V) W := fun W hW => ⟨(hW.cell (p := ⟨kb, 2, none⟩) hkb7).trans hS7.1, hS7.2.below hW⟩
      have HSb := hide hSb
      clear hout hklo hSb
      go_wp2_with fail
      refine wp_region_held_drew (S := (fun W => W.cell? ⟨kb, 2, none⟩ = some (.map (some b2)) ∧ BoxC C (wol V) W)) kR (by first | with_reducible exact hS7 | with_reducible exact hHeld | with_reducible exact hS9 | exact HSb.out _ (Below.drew (Below.refl _ _)) | exact HSb.out _ hb8 | exact HSb.out _ (Below.drew hb8) | exact HSb.out _ ab0) (fun hHeld => ?_)
      refine tq9 0 ?_
      refine tq9 1 ?_
      refine tq9 2 ?_
      refine tq9 3 ?_
      refine tq9 4 ?_
      refine wE 5 fun K hK => ?_
      go_simp
      (go_at_call 14; refine (Hout.out _ ab0).mono ?_; rintro e w8 ⟨rfl, hb8'⟩; have hb8 : Below w7.heap.size w7 w8 := ab0; have hs8 := hb8.size)
      go_wp2_with fail
      refine oK hK (by first | with_reducible exact hS7 | with_reducible exact hHeld | with_reducible exact hS9 | exact HSb.out _ (Below.drew (Below.refl _ _)) | exact HSb.out _ hb8 | exact HSb.out _ (Below.drew hb8) | exact HSb.out _ ab0) fun hHeld => ?_
      clear hK K
      refine wE 6 fun K hK => ?_
      go_simp
      (obtain ⟨w9, hrun9, hown9, hg9⟩ := (HW7.out.f.kept (grown_of_below hb8 none) sM).update (string_keyed Tryz.underlying9) Tryz.underlying44 (by unfold maxLen; omega) HklO.out (plainElem_bool Tryz.underlying4 true); rw [hrun9]; go_simp; have hS9 : w9.cell? ⟨kb, 2, none⟩ = some (.map (some b2)) ∧ BoxC C (wol V) w9 := ⟨(World.cell?_of_block (a := ⟨kb, 2, none⟩) (hg9.block kb oM (by intro e; injection e with e; exact HW7.out.n.2.2 e))).trans (HSb.out _ hb8).1, (HSb.out _ hb8).2.grown hg9 (by intro e; injection e with e; omega)⟩)
      go_wp2_with fail
      refine oK hK (by first | with_reducible exact hS7 | with_reducible exact hHeld | with_reducible exact hS9 | exact HSb.out _ (Below.drew (Below.refl _ _)) | exact HSb.out _ hb8 | exact HSb.out _ (Below.drew hb8) | exact HSb.out _ ab0) fun hHeld => ?_
      clear hK K
      refine wD ?_
      all_goals have hb8' : Below w7.heap.size w7 w8 := hb8
      all_goals have hW9 := hide ((HW7.out.below hb8').put2 hg9 hown9)
      all_goals have hK9 := hide ((RKept.of (b1 := b1) (b2 := b2) (G := G) hb8').trans (.put2 hg9 (StrM.of (HW7.out.below hb8').f)) (G1 := G) (fun g hg => .inl hg))
      all_goals clear hown9 hg9 hS9 hrun9
      all_goals go_wp2_with fail
      all_goals go_meet
      all_goals refine ⟨_, hW9, hK9, hide ⟨fun x hx => (has_put_iff HW7.out.f.isMap).2 (.inl hx), fun x hx => ?_, fun _ => (has_put_iff HW7.out.f.isMap).2 (.inr rfl), ?_⟩⟩
      all_goals first
       |(rcases (has_put_iff HW7.out.f.isMap).1 hx with h | h
         · exact .inl h
         · exact .inr ((outsP_all HOK.out).2 (.inl ⟨by rw [← Hl.out]; exact Hl0.out, h⟩)))
       | (rw [Maps.size_put (HW7.out.f.tidy (string_keyed Tryz.underlying9))]; split <;> omega)
     | false =>
      have Hl0 : Hid (l ≠ []) := hide (fun e => by have h := Hbz.out; rw [e] at h; cases h)
      go_wp2_with fail
      go_meet
      exact ⟨F, HW7, hide (RKept.refl _ _ _ _), hide ⟨fun _ h => h, fun _ h => .inl h, fun h => absurd h Hl0.out, by omega⟩⟩
    case rest =>
     obtain ⟨w8, hw8⟩ : ∃ W : World, W = wc := ⟨_, rfl⟩
     subst hw8
     obtain ⟨F1, HW8, HK78, HF⟩ := hcut
     have hs78 := HK78.out.size
     have HK08 := hide (HK07.out.trans HK78.out (G1 := G) (fun g hg => .inl hg))
     have hGm : ¬ G m := fun hg => by
      obtain ⟨es, cc, q1⟩ := HZ.out.obj
      obtain ⟨_, e, cur, q2⟩ := HW.out.s.gl m hg
      rw [q1] at q2
      cases q2
     have HZ8 := hide (HK08.out.set m Z Hmb.out.1 Hmb.out.2 hGm HZ.out)
     have HX8 := hide (HK78.out.box HX7.out oM oM (fun h => HGC.out (.inl h)))
     have hcl := fun W (hW : SetM m Z W) => clone_steps W hW
     have Hcl := hide hcl
     clear hcl hGm
     go_upto_region 11 with (first
      | (go_at_call 86; refine (Hcl.out _ HZ8.out).mono ?_; rintro e w9 ⟨rfl, hset9, hz9, hb9⟩; have Hset9 := hide hset9; have Hb9 := hide hb9; have hs9 := hb9.size; clear hset9 hb9))
     have HW9 := hide (HW8.out.below Hb9.out)
     have HX9 := hide (HX8.out.below Hb9.out)
     have HK09 := hide (HK08.out.trans (RKept.of Hb9.out) (G1 := G) (fun g hg => .inl hg))
     have hg4l : ∀ g, (G g ∨ g = g4) → g < w8.heap.size := fun g hg => (HW8.out.s.gl g hg).1
     have hCl8 : C < w8.heap.size := HX8.out.2.2
     have hrow9 : ∀ (k : Nat) (s : Nat × Nat), l[k]? = some s → ∃ gA, A7 = some ⟨gA, 0, none⟩ ∧ w9.cell? ⟨gA, k * 2, none⟩ = some (.int .i64 ((s.1 : Int) + 1)) ∧ w9.cell? ⟨gA, k * 2 + 1, none⟩ = some (.int .i64 s.2) ∧ gA < w8.heap.size ∧ gA ≠ b1 ∧ gA ≠ b2 ∧ ¬ (G gA ∨ gA = g4) := fun k s hks => by
      have hk1 := (List.getElem?_eq_some_iff.1 hks).1
      obtain ⟨gA, cp2, e, _, hgA, hrd⟩ := own_some Hrow7.out oM
      injection e with e1 e2 e3
      obtain ⟨b', o', e', hb', hc'⟩ := Rd.elem hrd (fun a => (rfl : (stc a).length = 2)) hk1 hks
      injection e' with e'
      injection e' with e4 e5
      subst e4 e5
      have hng : ¬ (G gA ∨ gA = g4) := fun hg => by
       have := (HW6.out.s.gl gA hg).1
       omega
      have hob : w9.heap[gA]? = w7.heap[gA]? := (Hb9.out.block gA oM).trans (HK78.out.block gA hb' oM oM (fun h => hng (.inl h)))
      refine ⟨gA, e1, ?_, ?_, by omega, by omega, by omega, hng⟩
      ·have q := hc' 0 (.int .i64 ((s.1 : Int) + 1)) rfl
       rw [Nat.zero_add] at q
       exact (World.cell?_of_block (a := ⟨gA, k * 2, none⟩) hob).trans q
      ·have q := hc' 1 (.int .i64 s.2) rfl
       rw [Nat.zero_add] at q
       exact (World.cell?_of_block (a := ⟨gA, k * 2 + 1, none⟩) hob).trans q
     have Hrow9 := hide hrow9
     have Hg4l := hide hg4l
     obtain ⟨mL, hmL⟩ : ∃ x, x = w8.heap.size := ⟨_, rfl⟩
     have hmL9 : mL < w9.heap.size := by omega
     have HmL := hide hmL
     rw [← hmL] at Hset9 hz9 ⊢
     have hb1m : b1 < mL := by omega
     have hb2m : b2 < mL := by omega
     have hCm : C < mL := by omega
     have hkm : kb < mL := by omega
     have hRIn0 : RIn L rs P Z (addZ Sn P.keyP Z) F1 (25 ^ (r - 1)) 0 l (addZ Sn P.keyP Z) F1 := ⟨fun _ _ h => h, fun _ _ h => .inl h, fun _ h => h, fun _ h => .inl h, fun y hy hr' Z' hz' => (clr_add (Z := Z) HOK.out (by rw [Hr.out]; exact HCl.out) HF.out.1 y hy hr' Z' hz'), fun o ho => by simp at ho, fun x => by simp, by simp⟩
     have HRIn0 := hide hRIn0
     have HD1' := hide (show (Maps.size D1 : Int) ≤ most ∧ 0 < Maps.size D1 from ⟨by have := Hover.out; omega, HD1s.out.2⟩)
     clear hmL hrow9 hg4l hRIn0
     go_wp2_with fail
     go_loopw [57] (fun i wr => ∃ (k : Nat) (Gk Xk : Nat → Prop) (Snk : List UInt8 → List (DataW Unit)) (Dk Fk Lk : DataW Unit), i = .int .i64 k ∧ k ≤ l.length ∧ Hid (RWalk kb b1 b2 most Gk Xk Snk Dk Fk wr) ∧ Hid (∀ g, Gk g → (G g ∨ g = g4) ∨ w9.heap.size ≤ g) ∧ Hid (∀ x, Xk x → ((X x ∨ x = m) ∨ w9.heap.size ≤ x) ∧ x < wr.heap.size) ∧ Hid (RKept b1 b2 (fun g => (G g ∨ g = g4) ∨ g = mL) w9 wr) ∧ Hid (SetM mL Lk wr ∧ ∀ o, inS o → (hasS Lk o ↔ hasS Z o ∨ o ∈ l.take k)) ∧ Hid (RIn L rs P Z (addZ Sn P.keyP Z) F1 (25 ^ (r - 1)) k l Snk Fk) ∧ Hid ((Maps.size Dk : Int) ≤ most ∧ 0 < Maps.size Dk)) (fun i _ => l.length - (intOf i).toNat)
     case atStart => exact ⟨0, _, _, _, D1, F1, Z, rfl, by omega, HW9, hide (fun g hg => .inl hg), hide (fun x hx => ⟨.inl hx, by have := (HXn.out x hx).2; omega⟩), hide (RKept.refl _ _ _ _), hide ⟨Hset9.out, fun o ho => by simp⟩, HRIn0, HD1'⟩
     case round =>
      obtain ⟨k, Gk, Xk, Snk, Dk, Fk, Lk, rfl, hk, HWr, HGk, HXk, HKr, HLk, HRI, HDk⟩ := hrel
      have hsr := HKr.out.size
      have HXr := hide (HKr.out.box HX9.out oM oM (fun h => h.elim HGC.out (fun e => by omega)))
      have j0 : (0 : Int) ≤ (k : Int) := by omega
      by_cases hlt : (k : Int) < l.length
      ·have hk1 : k < l.length := by omega
       obtain ⟨s, hks⟩ : ∃ s, l[k]? = some s := ⟨_, List.getElem?_eq_getElem hk1⟩
       obtain ⟨gA, rfl, q0, q1, hgl, hg1, hg2, hg3⟩ := Hrow9.out k s hks
       have hgAr : gA < wr.heap.size := by omega
       have hobA : wr.heap[gA]? = w9.heap[gA]? := HKr.out.block gA oM hg1 hg2 (fun h => h.elim hg3 (fun e => by have := HmL.out; omega))
       have x0 : wr.cell? ⟨gA, k * 2, none⟩ = some (.int .i64 ((s.1 : Int) + 1)) := (World.cell?_of_block (a := ⟨gA, k * 2, none⟩) hobA).trans q0
       have x1 : wr.cell? ⟨gA, k * 2 + 1, none⟩ = some (.int .i64 s.2) := (World.cell?_of_block (a := ⟨gA, k * 2 + 1, none⟩) hobA).trans q1
       have hsm : s ∈ stpE E59 P := by rw [← Hl.out]; exact List.mem_of_getElem? hks
       have hsin : inS s := held_in HH.out oM hsm
       have hb10 := Below.alloc (Below.refl wr.heap.size wr) (Nat.le_refl _) (.cells #[.int .i64 ((s.1 : Int) + 1), .int .i64 s.2] 146)
       have hlook := (HLk.out.1.below hb10).look hsin
       unfold stv at hlook
       have Hks := hide hks
       have Hsm := hide hsm
       have Hsin := hide hsin
       cases hb : hasB Lk s with
       | true =>
        rw [hb] at hlook
        have hzs : hasS Z s ∨ s ∈ l.take k := (HLk.out.2 s hsin).1 (hasB_true.1 hb)
        have hRI2 := hide (HRI.out.sleeps Hl.out hks hzs)
        have hLk2 : Hid (SetM mL Lk (wr.alloc (.cells #[.int .i64 ((s.1 : Int) + 1), .int .i64 s.2] 146)) ∧ ∀ o, inS o → (hasS Lk o ↔ hasS Z o ∨ o ∈ l.take (k + 1))) := hide ⟨HLk.out.1.below hb10, fun o ho => by
          rw [HLk.out.2 o ho, take_snoc hks, List.mem_append, List.mem_singleton]
          constructor
          · rintro (h | h)
            ·exact .inl h
            ·exact .inr (.inl h)
          · rintro (h | h | rfl)
            ·exact .inl h
            ·exact .inr h
            ·exact hzs⟩
        have hW2 := hide (HWr.out.below hb10)
        have hK2 := hide (HKr.out.trans (RKept.of hb10) (G1 := G) (fun g hg => .inl (.inl (.inl hg))))
        have hX2 := hide (show ∀ x, Xk x → ((X x ∨ x = m) ∨ w9.heap.size ≤ x) ∧ x < (wr.alloc (.cells #[.int .i64 ((s.1 : Int) + 1), .int .i64 s.2] 146)).heap.size from fun x hx => ⟨(HXk.out x hx).1, Nat.lt_of_lt_of_le (HXk.out x hx).2 hb10.size⟩)
        clear hb hb10 hzs hks hsm hsin
        go_wp2_with fail
        exact ⟨⟨k + 1, Gk, Xk, Snk, Dk, Fk, Lk, by go_num, by omega, hW2, HGk, hX2, hK2, hLk2, hRI2, HDk⟩, by simp [intOf]; omega⟩
       | false =>
        rw [hb] at hlook
        have hnot : ¬ hasS Lk s := fun h => by rw [hasB_true.2 h] at hb; cases hb
        have Hnot := hide hnot
        clear hb hnot
        go_wp2_with fail
        obtain ⟨wq, hwq⟩ : ∃ W : World, W = wr.alloc (.cells #[.int .i64 ((s.1 : Int) + 1), .int .i64 s.2] 146) := ⟨_, rfl⟩
        have hbq : Below wr.heap.size wr wq := by rw [hwq]; exact Below.alloc (Below.refl _ _) (Nat.le_refl _) _
        have hxs : BoxC wr.heap.size [.int .i64 ((s.1 : Int) + 1), .int .i64 s.2] wq := by rw [hwq]; exact BoxC.made wr #[.int .i64 ((s.1 : Int) + 1), .int .i64 s.2] 146
        rw [← hwq]
        clear hwq hlook hb10
        obtain ⟨Bs, hBs⟩ : ∃ x, x = wr.heap.size := ⟨_, rfl⟩
        rw [← hBs] at hxs ⊢
        have HBs := hide hBs
        have hsq := hbq.size
        have hBsq : Bs < wq.heap.size := hxs.2.2
        have hCBs : C ≠ Bs := by have := HXr.out.2.2; omega
        clear hBs
        have HHq := hide ((HKr.out.held _ _ _ _ _ ⟨by have := HB.out; have := HCw.out; omega, by have := HB.out; omega, fun g hg => by
          have hB0 := HB.out
          have hw0 := HH.out.b
          have hw3 := HB03.out.size
          rcases hg with hg | hg
          · rcases HGn.out g hg with h | h
            ·exact hB0.2.2 g h
            ·omega
          · have := HmL.out; omega⟩ ⟨Hoff.out.1, Hoff.out.2.1, fun g hg => by
          have hw3 := HB03.out.size
          rcases hg with hg | hg
          · rcases HGn.out g hg with h | h
            ·exact Hoff.out.2.2 g h
            ·exact WorldV.off_new HH.out.r h
          · exact WorldV.off_new HH.out.r (by have := HmL.out; omega)⟩ ((HK09.out.held _ _ _ _ _ HB.out Hoff.out HH.out))).below hbq)
        have hrk1 : (P.next s).rk + 1 = P.rk := ((alike59 L rs).next HOK.out Hsm.out).2
        have hr1 : (P.next s).rk = r - 1 := by have := Hr.out; omega
        have hrpos : 1 ≤ r := by have := Hr.out; omega
        have hsubL : ∀ o, inS o → hasS Lk o → o ∈ stpE E59 P := fun o ho h => by
          rcases (HLk.out.2 o ho).1 h with h | h
          · exact HZin.out o ho h
          · rw [← Hl.out]; exact List.mem_of_mem_take h
        have hafter := fun W (hW : Below wq.heap.size wq W) => held_after HHq.out HOf.out Hns.out (by have := Hr.out; omega) Hsm.out W hW
        have hasl := fun W (hW : Below wq.heap.size wq W) => ex_asleep W (HHq.out.below hW) oM Hns.out mL Lk ((HLk.out.1.below hbq).below hW) s Hsm.out hsubL (by rw [← Hl.out]; omega)
        have hsome := fun (V2 : WorldV) (mo : Nat) (Zs : DataW Unit) (W : World) (hW : Below wq.heap.size wq W) (hH2 : Held B0 L (n + 1) W V2 (P.next s)) (hoff2 : ∀ X, X < wr.heap.size → V.off X → V2.off X) (hZs : SetM mo Zs W) (hmo : wq.heap.size ≤ mo) (hiff : ∀ o, inS o → (hasS Zs o ↔ hasS Lk o ∧ indS P s o)) => IH.out (r - 1) oM B0 (n + 1) (P.next s) V2 mo Zs Gk Xk Snk Dk Fk W hr1 oM hH2 (by
            obtain ⟨a, ha, e⟩ := step_parts (stp_mem (P := P) Hsm.out)
            rw [e]
            exact nx_of HH.out.i.q.hs HOf.out) (by rw [next_ss]; exact Hns.out) ⟨HB.out.1, HB.out.2.1, fun g hg => by
            have hw0 := HH.out.b
            have hw3 := HB03.out.size
            rcases HGk.out g hg with h | h
            ·rcases HGn.out g h with h | h
             ·exact HB.out.2.2 g h
             ·omega
            ·omega⟩ ⟨hoff2 b1 oM Hoff.out.1, hoff2 b2 oM Hoff.out.2.1, fun g hg => by
            have hw3 := HB03.out.size
            refine hoff2 g (HWr.out.s.gl g hg).1 ?_
            rcases HGk.out g hg with h | h
            ·rcases HGn.out g h with h | h
             ·exact Hoff.out.2.2 g h
             ·exact WorldV.off_new HH.out.r h
            ·exact WorldV.off_new HH.out.r oM⟩ ((HWr.out.below hbq).below hW) (fun x hx => by have := (HXk.out x hx).2; have := hW.size; omega) hZs ⟨by omega, by omega⟩ (fun o ho h => by
            obtain ⟨h1, h2⟩ := (hiff o ho).1 h
            exact (ind_com Hsm.out (hsubL o ho h1) h2).2.1) (fun y hy hry Z' hz' => HRI.out.cl y hy (by have := Hr.out; omega) Z' hz') (fun x => by
            have h1 := HRI.out.c1 x
            have h2 := Hc1.out x
            have h3 : (addZ Sn P.keyP Z x).length ≤ (Sn x).length + 1 := by
             unfold addZ
             split
             ·simp
             ·omega
            exact pow_room hl24 hk1 hrpos h1 h3 h2) HDk.out.1 (pow_room hl24 hk1 hrpos HRI.out.c2 HF.out.2.2.2 Hc2.out)
        have hsome2 := fun (V2 : WorldV) (mo : Nat) (Zs : DataW Unit) (W : World) (hW : Below wq.heap.size wq W) (hH2 : Held B0 L (n + 1) W V2 (P.next s)) (hoff2 : ∀ X, X < wr.heap.size → V.off X → V2.off X) (hZs : SetM mo Zs W) (hmo : wq.heap.size ≤ mo) (hiff : ∀ o, inS o → (hasS Zs o ↔ hasS Lk o ∧ indS P s o)) => show Calls Tryz.prog 51 #[.pointer (some ⟨kb, 0, none⟩), (.agg #[.slice ((V2).M).mem.pA ((V2).M).mem.hs.length ((V2).M).mem.pc, .slice ((V2).M).mem.vA ((V2).M).mem.vs.length ((V2).M).mem.vc, .slice ((V2).M).ln.fA ((V2).M).ln.first.length ((V2).M).ln.fc, .slice ((V2).M).ln.lA ((V2).M).ln.logs.length ((V2).M).ln.lc, .map ((V2).M).ln.asks, .slice ((V2).M).sA ((V2).M).steps.length ((V2).M).sc, .int .i64 ((V2).M).crashes, .slice (V2).tA (V2).ts.length (V2).tc, .slice (V2).sA (V2).ss.length (V2).sc]), .map (some mo)] W fun e w' => ∃ (ok : Bool) (G' X' : Nat → Prop) (Sn' : List UInt8 → List (DataW Unit)) (D' F' : DataW Unit), e = .returned (.bool ok) ∧ RWalk kb b1 b2 most G' X' Sn' D' F' w' ∧ (∀ g, G' g → Gk g ∨ wr.heap.size ≤ g) ∧ (∀ x, X' x → (Xk x ∨ wr.heap.size ≤ x) ∧ x < w'.heap.size) ∧ RKept b1 b2 Gk wq w' ∧ (ok = true → RIn L rs P Z (addZ Sn P.keyP Z) F1 (25 ^ (r - 1)) (k + 1) l Sn' F' ∧ (Maps.size D' : Int) ≤ most ∧ 0 < Maps.size D') from (hsome V2 mo Zs W hW hH2 hoff2 hZs hmo hiff).mono (fun e w' ⟨ok, G', X', Sn', D', F', he, hW', hG', hX', hK', hd'⟩ => ⟨ok, G', X', Sn', D', F', he, hW', fun g hg => (hG' g hg).imp_right (fun h => by have := hW.size; omega), fun x hx => ⟨(hX' x hx).1.elim .inl (fun h => .inr (h.elim (fun e => by omega) (fun h => by have := hW.size; omega))), (hX' x hx).2⟩, (RKept.of hW).trans hK' (fun g hg => .inl hg), fun hok => ⟨HRI.out.follows HOK.out Hl.out Hks.out (fun o ho => held_in hH2 oM ho) (fun o ho h => by rw [Hl.out]; exact HZin.out o ho h) HLk.out.2 hiff (hd' hok).1, (hd' hok).2⟩⟩)
        have Hafter := hide hafter
        have Hasl := hide hasl
        have Hsome := hide hsome2
        have HXq := hide (HXr.out.below hbq)
        have hSq : BoxC C (wol V) wq ∧ BoxC Bs [.int .i64 ((s.1 : Int) + 1), .int .i64 s.2] wq := ⟨HXr.out.below hbq, hxs⟩
        have HSb := hide (fun (W : World) (hW : Below wq.heap.size wq W) => (show BoxC C (wol V) W ∧ BoxC Bs [.int .i64 ((s.1 : Int) + 1), .int .i64 s.2] W from ⟨hSq.1.below hW, hSq.2.below hW⟩))
        have hGB : ¬ Gk Bs := fun h => by have := (HWr.out.s.gl Bs h).1; have := HBs.out; omega
        have hGC2 : ¬ Gk C := fun h => (HGk.out C h).elim HGC.out (fun h => by omega)
        have HSk := hide (fun (W : World) (hK : RKept b1 b2 Gk wq W) => (show BoxC C (wol V) W ∧ BoxC Bs [.int .i64 ((s.1 : Int) + 1), .int .i64 s.2] W from ⟨hK.box hSq.1 oM oM hGC2, hK.box hSq.2 (by have := HBs.out; omega) (by have := HBs.out; omega) hGB⟩))
        have Hbq := hide hbq
        clear hsome hsome2 hafter hasl hsubL hxs hGB hGC2 hbq
        go_cut [73] from 64 to 73 (fun s73 wx => ∃ (ok : Bool) (G' X' : Nat → Prop) (Sn' : List UInt8 → List (DataW Unit)) (D' F' : DataW Unit), s73 = .bool (!ok) ∧ Hid (RWalk kb b1 b2 most G' X' Sn' D' F' wx) ∧ Hid (∀ g, G' g → Gk g ∨ wr.heap.size ≤ g) ∧ Hid (∀ x, X' x → (Xk x ∨ wr.heap.size ≤ x) ∧ x < wx.heap.size) ∧ Hid (RKept b1 b2 Gk wq wx) ∧ Hid (ok = true → RIn L rs P Z (addZ Sn P.keyP Z) F1 (25 ^ (r - 1)) (k + 1) l Sn' F' ∧ (Maps.size D' : Int) ≤ most ∧ 0 < Maps.size D'))
        case first =>
          refine wp_region_held_drew (S := (fun W => BoxC C (wol V) W ∧ BoxC Bs [.int .i64 ((s.1 : Int) + 1), .int .i64 s.2] W)) kR (by first | with_reducible exact hSq | with_reducible exact hHeld | with_reducible exact hS8 | exact HSb.out _ (Below.drew (Below.refl _ _)) | exact HSb.out _ ab0) (fun hHeld => ?_)
          refine tq10 0 ?_
          refine tq10 1 ?_
          refine tq10 2 ?_
          refine tq10 4 ?_
          refine tq10 5 ?_
          refine tq10 6 ?_
          refine wE 3 fun K hK => ?_
          go_simp
          (go_at_call 59; refine (Hafter.out _ ab0).mono ?_; rintro e wa ⟨V2, rfl, hH2, hoff2, hba'⟩; have hba : Below _ _ wa := (by first | with_reducible exact noDrew hba' | exact hba'); have hswa := (hba).size; (try simp at hswa))
          go_wp2_with fail
          refine oK hK (by first | with_reducible exact hSq | with_reducible exact hHeld | with_reducible exact hS8 | exact HSb.out _ (Below.drew (Below.refl _ _)) | exact HSb.out _ ab0) fun hHeld => ?_
          clear hK K
          refine wE 7 fun K hK => ?_
          go_simp
          (go_at_call 87; refine (Hasl.out _ ab0).mono ?_; rintro e wz ⟨mo, Zs, rfl, hsz, hmo, hiff, hbz'⟩; have hbz2 : Below _ _ wz := (by first | with_reducible exact noDrew hbz' | exact hbz'); have hswz := (hbz2).size; (try simp at hswz))
          go_wp2_with fail
          refine oK hK (by first | with_reducible exact hSq | with_reducible exact hHeld | with_reducible exact hS8 | exact HSb.out _ (Below.drew (Below.refl _ _)) | exact HSb.out _ ab0) fun hHeld => ?_
          clear hK K
          refine wE 8 fun K hK => ?_
          go_simp
          (go_at_call 51; refine (Hsome.out V2 mo Zs _ ab0 (hH2.below ab0) (fun Y hY h => hoff2 Y (by simp; omega) h) (hsz.below ab0) (by (try simp at hmo); omega) hiff).mono ?_; rintro e wc2 ⟨ok, G', X', Sn', D', F', rfl, hW', hG', hX', hK', hd'⟩; have hS8 := HSk.out _ hK'; have hK8 := hide hK'; have hW8 := hide hW'; have hG8 := hide hG'; have hX8 := hide hX'; have hd8 := hide hd'; clear hK' hW' hG' hX' hd')
          go_wp2_with fail
          refine oK hK (by first | with_reducible exact hSq | with_reducible exact hHeld | with_reducible exact hS8 | exact HSb.out _ (Below.drew (Below.refl _ _)) | exact HSb.out _ ab0) fun hHeld => ?_
          clear hK K
          refine tq10 9 ?_
          refine wD ?_
          all_goals clear hS8 hH2 hoff2 hsz hiff
          all_goals go_wp2_with fail
          all_goals go_meet
          all_goals exact ⟨ok, G', X', Sn', D', F', by simp, hW8, hG8, hX8, hK8, hd8⟩
        case rest =>
          obtain ⟨wn, hwn⟩ : ∃ W : World, W = wc := ⟨_, rfl⟩
          subst hwn
          obtain ⟨ok, G', X', Sn', D', F', rfl, HW', HG', HX', HK', Hd'⟩ := hcut
          have hsn := HK'.out.size
          have hKr1 := HKr.out.trans (RKept.of Hbq.out) (G1 := Gk) (fun g hg => (HGk.out g hg).imp_left .inl)
          have hKr2 := hKr1.trans HK'.out (fun g hg => (HGk.out g hg).imp_left .inl)
          have hKall := HK09.out.trans hKr2 (fun g hg => hg.elim (fun h => HGn.out g h) (fun e => .inr (by have := HB03.out.size; have := HmL.out; omega)))
          have hGall : ∀ g, G' g → (G g ∨ g = g4) ∨ w9.heap.size ≤ g := fun g hg => (HG'.out g hg).elim (HGk.out g) (fun h => .inr oM)
          have hXall : ∀ x, X' x → ((X x ∨ x = m) ∨ w9.heap.size ≤ x) ∧ x < wn.heap.size := fun x hx => ⟨(HX'.out x hx).1.elim (fun h => (HXk.out x h).1) (fun h => .inr oM), (HX'.out x hx).2⟩
          have HKr2 := hide hKr2
          have HKall := hide hKall
          have HGall := hide hGall
          have HXall := hide hXall
          clear hKr1 hKr2 hKall hGall hXall
          cases ok with
          | false =>
            go_wp2_with fail
            exact bodyPost_ret (v := .bool false) (by simp [results, Tryz.results51, go_sem]) rfl ⟨false, G', X', Sn', D', F', rfl, HW'.out, fun g hg => (HGall.out g hg).elim (HGn.out g) (fun h => .inr (by have := HB03.out.size; omega)), fun x hx => ⟨(HXall.out x hx).1.elim (fun h => h.elim .inl (fun e => .inr (.inl e))) (fun h => .inr (.inr (by have := HB03.out.size; omega))), (HXall.out x hx).2⟩, HKall.out, (fun e => by cases e)⟩
          | true =>
            have hGmL : ¬ Gk mL := fun hg => by
             obtain ⟨es, cc, q1⟩ := HLk.out.1.obj
             obtain ⟨_, e, cur, q2⟩ := HWr.out.s.gl mL hg
             rw [q1] at q2
             cases q2
            have hXmL : ¬ X' mL := fun hx => by
             have h0 := HmL.out
             rcases (HXall.out mL hx).1 with h | h
             ·have := (HXn.out mL h).2
              omega
             ·omega
            have HLn := hide (HK'.out.set mL Lk oM oM hGmL (HLk.out.1.below Hbq.out))
            have hbx := (HSk.out wn HK'.out).2
            have kb0 : wn.cell? ⟨Bs, 0, none⟩ = some (.int .i64 ((s.1 : Int) + 1)) := hbx.at rfl
            have kb1 : wn.cell? ⟨Bs, 1, none⟩ = some (.int .i64 s.2) := hbx.at rfl
            have hkeyo := key_stv Hsin.out
            unfold stv at hkeyo
            have Hkeyo := hide hkeyo
            have hszL : Maps.size Lk ≤ 24 := Nat.le_trans (goodS_size HLk.out.1.2 (l := l) (fun o ho h => by
             rcases (HLk.out.2 o ho).1 h with h | h
             ·rw [Hl.out]; exact HZin.out o ho h
             ·exact List.mem_of_mem_take h)) hl24
            have HXmL := hide hXmL
            clear hGmL hXmL hbx hkeyo
            go_wp2_with (at_mapUpdate; refine wpList_mapUpdate_own _ rfl _ _ _ 126 rfl 146 4 lawS Tryz.underlying126 (plainElem Tryz.prog 4) mL (Maps.size Lk) Lk rfl HLn.out.1 (by unfold maxLen; omega) _ _ _ rfl rfl Hkeyo.out (.lit (.bool true)) [] (plainElem_bool Tryz.underlying4 true) ?_; intro wm hownm hgm; have Hownm := hide hownm; have Hgm := hide hgm; have hsm2 := hgm.size; clear hownm hgm)
            have hWm : RWalk kb b1 b2 most G' X' Sn' D' F' wm := ⟨(Hgm.out.block kb HW'.out.kl (by intro e; injection e with e; omega)).trans HW'.out.k, HW'.out.n, HW'.out.s.putM oM HLn.out.obj HXmL.out Hgm.out, HW'.out.f.kept Hgm.out (by intro e; injection e with e; omega), HW'.out.g⟩
            have hKm : RKept b1 b2 (fun g => (G g ∨ g = g4) ∨ g = mL) w9 wm := HKr2.out.trans (RKept.putM (G := fun g => (G g ∨ g = g4) ∨ g = mL) Hgm.out (StrM.ofS HLn.out) (.inr rfl)) (fun g hg => .inl hg)
            have hLm : SetM mL (Lk.put (stk s) (.lit (.bool true))) wm ∧ ∀ o, inS o → (hasS (Lk.put (stk s) (.lit (.bool true))) o ↔ hasS Z o ∨ o ∈ l.take (k + 1)) := ⟨⟨ownsMap_refit Hownm.out, HLn.out.2.put Hsin.out⟩, fun o ho => by
             rw [hasS_put HLn.out.2 Hsin.out ho, HLk.out.2 o ho, take_snoc Hks.out, List.mem_append, List.mem_singleton, or_assoc]⟩
            have hd := Hd'.out rfl
            exact ⟨⟨k + 1, G', X', Sn', D', F', _, by go_num, by omega, hide hWm, HGall, hide (fun x hx => ⟨(HXall.out x hx).1, Nat.lt_of_lt_of_le (HXall.out x hx).2 hsm2⟩), hide hKm, hide hLm, hide hd.1, hide hd.2⟩, by simp [intOf]; omega⟩
      ·have hkl' : k = l.length := by omega
       have hRI := HRI.out
       rw [hkl'] at hRI
       have hds : ∀ q ∈ stpE E59 P, DS P (hasS Z) Fk q := fun q hq => hRI.ds q (by rw [List.take_length, Hl.out]; exact hq)
       have hdc : DC P (hasS Z) Fk := dc_end HOK.out (fun h => hRI.mf _ (HF.out.2.2.1 (by rw [Hl.out]; exact h))) hds
       have hleft := left_end (Sn2 := Snk) (F2 := Fk) HOK.out (by rw [Hr.out]; exact HCl.out) (fun x hx => hRI.mf x (HF.out.1 x hx)) hRI.ms hRI.ns (fun x hx => (hRI.nf x hx).elim (HF.out.2.1 x) .inr) hRI.cl hdc
       have hpow : 1 + l.length * 25 ^ (r - 1) ≤ 25 ^ r := by
        rcases Nat.eq_zero_or_pos r with h0 | h0
        · have : l.length = 0 := by
            cases hll : l with
            | nil => rfl
            | cons q l' =>
             have hq : q ∈ stpE E59 P := by rw [← Hl.out, hll]; exact List.mem_cons_self
             have h1 := ((alike59 L rs).next HOK.out hq).2
             have h2 := Hr.out
             have h3 : (E59.next P q).rk = (P.next q).rk := rfl
             omega
          rw [this, h0]
          simp
        · obtain ⟨r', hr'⟩ : ∃ r', r = r' + 1 := ⟨r - 1, by omega⟩
          rw [hr', Nat.pow_succ, Nat.add_sub_cancel]
          have h1 : 1 ≤ 25 ^ r' := Nat.one_le_pow _ _ dM
          have h2 := Nat.mul_le_mul_right (25 ^ r') hl24
          omega
       have hdone : RDone L rs P Z (25 ^ r) Sn F Snk Fk := by
        refine ⟨hleft, hdc, fun x => ?_, ?_⟩
        · have h1 := hRI.c1 x
          have h2 : (addZ Sn P.keyP Z x).length ≤ (Sn x).length + 1 := by
            unfold addZ
            split
            ·simp
            ·omega
          omega
        · have h1 := hRI.c2
          have h2 := HF.out.2.2.2
          omega
       have Hdone := hide hdone
       have hKf := hide (HK09.out.trans HKr.out (fun g hg => hg.elim (fun h => HGn.out g h) (fun e => .inr (by have := HB03.out.size; have := HmL.out; omega))))
       have hGf := hide (show ∀ g, Gk g → G g ∨ w.heap.size ≤ g from fun g hg => (HGk.out g hg).elim (HGn.out g) (fun h => .inr (by have := HB03.out.size; omega)))
       have hXf := hide (show ∀ x, Xk x → (X x ∨ x = m ∨ w.heap.size ≤ x) ∧ x < wr.heap.size from fun x hx => ⟨(HXk.out x hx).1.elim (fun h => h.elim .inl (fun e => .inr (.inl e))) (fun h => .inr (.inr (by have := HB03.out.size; omega))), (HXk.out x hx).2⟩)
       clear hkl' hRI hds hdc hleft hpow hdone
       go_wp2_with fail
       exact bodyPost_ret (v := .bool true) (by simp [results, Tryz.results51, go_sem]) rfl (.inr ⟨rfl, Gk, Xk, Snk, Dk, Fk, HWr.out, hGf.out, hXf.out, hKf.out, Hdone.out, HDk.out⟩)
end Go.Proofs.YtnnmenmifphadaaGreatDoor
namespace Go.Proofs.YtnnmenmifphadaaGreatDoor
open Go.RowKit Go.Maps Go.Sort Go.Shelf
set_option maxRecDepth 100000
theorem ex_toldR (kb b1 b2 : Nat) (most : Int) (G X : Nat → Prop) (Sn : List UInt8 → List (DataW Unit)) (D F : DataW Unit) (w : World) (h : RWalk kb b1 b2 most G X Sn D F w) (hF : Maps.size F ≤ 100000000000) :
  Calls Tryz.prog 24 #[.pointer (some ⟨kb, 0, none⟩), .bool true] w fun e w' => ∃ (v : Value) (ss : List (List UInt8)), e = .returned (.tuple #[v, .int .i64 (Maps.size D), .int .i64 0]) ∧ ss.Perm (strKeys F) ∧ w'.ownsRow w.heap.size 9 1 v ss.length ((ss.mergeSort (fun x y => decide (x ≤ y))).map encStr) ∧ Below w.heap.size w w' := by
 have hkeys := fun W => keys_S2 (some b2) W
 have hsort := fun Bm W (hm : W.cell? ⟨Bm, 0, none⟩ = some (.map (some b2))) (hW : Below w.heap.size w W) => sorted_S Bm b2 (Maps.size F) F (plainElem Tryz.prog 4) W hm ((h.below hW).f) (by unfold maxLen; omega) oM
 have Hkeys := hide hkeys
 have Hsort := hide hsort
 clear hkeys hsort hF
 go_enter Tryz.func24, Tryz.ntmps24
 go_wp2_with fail
 refine wp_region_held_drew (S := (fun W => RWalk kb b1 b2 most G X Sn D F W)) kR ab18 (fun hHeld => ?_)
 refine tq11 0 ?_
 refine tq11 1 ?_
 refine tq11 2 ?_
 refine tq11 3 ?_
 refine tq11 6 ?_
 refine tq11 7 ?_
 refine tq11 8 ?_
 refine tq11 9 ?_
 refine wE 4 fun K hK => ?_
 go_simp
 (go_at_call 57; refine (Hkeys.out _).mono ?_; rintro e w1 ⟨Bm, rfl, hm1, hb1'⟩; have hb1 : Below _ _ w1 := (by first | with_reducible exact noDrew hb1' | exact hb1'); have hsw1 := (hb1).size; (try simp at hsw1))
 go_wp2_with fail
 refine oK hK ab18 fun hHeld => ?_
 clear hK K
 refine wE 5 fun K hK => ?_
 go_simp
 (go_at_call 56; refine (Hsort.out _ _ hm1 ab0).mono ?_; rintro e w2 ⟨v, ss, rfl, hp, hrow, -, hb2'⟩; have hb2 : Below _ _ w2 := ab15; have hsw2 := (hb2).size; (try simp at hsw2))
 go_wp2_with fail
 refine oK hK ab18 fun hHeld => ?_
 clear hK K
 refine tq11 10 ?_
 refine tq11 11 ?_
 refine tq11 12 ?_
 refine tq11 13 ?_
 refine wD ?_
 all_goals go_wp2_with fail
 all_goals refine bodyPost_ret (v := .tuple #[v, .int .i64 (Maps.size D), .int .i64 0]) (by simp [results, Tryz.results24, go_sem]) rfl ⟨v, ss, rfl, hp, ownsRow_base_a hrow hsw1, hb1.trans (hb2.mono hsw1)⟩
theorem rwalk_new (w : World) (most : Int) : RWalk (w.heap.size + 1 + 1) w.heap.size (w.heap.size + 1) most (fun _ => False) (fun _ => False) (fun _ => []) (.map []) (.map []) (((w.alloc (.map #[] 0)).alloc (.map #[] 0)).alloc (.cells #[.int .i64 most, .map (some w.heap.size), .map (some (w.heap.size + 1))] 136)) := by
 have h1 := World.ownsMap_made (H := Unit) w Tryz.prog 9 slcE
 have h2 := World.ownsMap_made (H := Unit) (w.alloc (.map #[] 0)) Tryz.prog 9 (plainElem Tryz.prog 4)
 rw [show (w.alloc (.map #[] 0)).heap.size = w.heap.size + 1 by simp] at h2
 exact ⟨heap_new _ _ sM, by omega, ⟨(h1.alloc _).alloc _, fun _ _ => rfl, fun k hk => by simp [has] at hk, fun k k' g n c n' c' hk => by simp [has] at hk, fun g hg => hg.elim⟩, h2.alloc _, fun g hg => hg.elim⟩
def TOk (ok : Bool) (D F : DataW Unit) (v : Value) (n e : Int) (B : Nat) (w' : World) : Prop :=
 (ok = true → n = (Maps.size D : Int) ∧ e = 0 ∧ ∃ ss : List (List UInt8), ss.Perm (strKeys F) ∧ w'.ownsRow B 9 1 v ss.length ((ss.mergeSort (fun x y => decide (x ≤ y))).map encStr)) ∧ (ok = false → v = .slice none 0 0 ∧ n = 0 ∧ e = 15)
theorem told_any (kb b1 b2 : Nat) (most : Int) (ok : Bool) (G X : Nat → Prop) (Sn : List UInt8 → List (DataW Unit)) (D F : DataW Unit) (w : World) (h : RWalk kb b1 b2 most G X Sn D F w) (hF : ok = true → Maps.size F ≤ 100000000000) :
  Calls Tryz.prog 24 #[.pointer (some ⟨kb, 0, none⟩), .bool ok] w fun e w' => ∃ (v : Value) (n er : Int), e = .returned (.tuple #[v, .int .i64 n, .int .i64 er]) ∧ Hid (TOk ok D F v n er w.heap.size w') ∧ Below w.heap.size w w' := by
 cases ok with
 | true =>
  refine (ex_toldR kb b1 b2 most G X Sn D F w h (hF rfl)).mono ?_
  rintro e w' ⟨v, ss, rfl, hp, hrow, hb⟩
  exact ⟨v, _, 0, rfl, hide ⟨fun _ => ⟨rfl, rfl, ss, hp, hrow⟩, (fun e => by cases e)⟩, hb⟩
 | false =>
  refine (ex_told_no _ w).mono ?_
  rintro e w' ⟨rfl, rfl⟩
  exact ⟨_, _, _, rfl, hide ⟨(fun e => by cases e), fun _ => ⟨rfl, rfl, rfl⟩⟩, Below.refl _ _⟩
theorem told_room {r a : Nat} (h : r ≤ 7) (ha : a ≤ Maps.size (.map [] : DataW Unit) + 25 ^ r) : a ≤ 100000000000 := by
 have h1 : (25 : Nat) ^ r ≤ 25 ^ 7 := Nat.pow_le_pow_right dM h
 have h2 : (25 : Nat) ^ 7 = 6103515625 := by decide
 have h3 : Maps.size (.map [] : DataW Unit) = 0 := rfl
 rw [h2] at h1
 rw [h3] at ha
 generalize 25 ^ r = p at *
 omega
theorem ex_Reduced {B0 L : Nat} {rs : List RowP} {V : WorldV} {P : PW} (w : World) (h : Held B0 L 0 w V P) (ho : P.Of L rs) (hns : ∀ b ∈ P.ss, b = false) (hrk : P.rk ≤ 7) (most : Int) (hm0 : 0 ≤ most) (hm1 : most ≤ 100000) :
  Calls Tryz.prog 20 #[(woV V), .int .i64 most] w fun e w' => ∃ (ok : Bool) (v : Value) (n er : Int) (D F : DataW Unit), e = .returned (.tuple #[v, .int .i64 n, .int .i64 er]) ∧ Hid (TOk ok D F v n er w.heap.size w') ∧ Hid (ok = true → 0 < Maps.size D ∧ Maps.size F ≤ 100000000000 ∧ StrT F ∧ ∀ x, has F (.string x) = true ↔ outsP P x) ∧ Below w.heap.size w w' := by
 have hbeg := fun W => ex_begun most W
 have hsome := fun (kb b1 b2 m : Nat) W (h1 : w.heap.size ≤ b1) (h2 : w.heap.size ≤ b2) (hW : Below w.heap.size w W) (hk : RWalk kb b1 b2 most (fun _ => False) (fun _ => False) (fun _ => []) (.map []) (.map []) W) (hZ : SetM m (.map []) W) (hmb : m ≠ b1 ∧ m ≠ b2) =>
  ex_some kb b1 b2 L rs most hm1 P.rk B0 0 P V m (.map []) (fun _ => False) (fun _ => False) (fun _ => []) (.map []) (.map []) W rfl oM (h.below hW) ho hns ⟨Nat.le_trans h.b h1, Nat.le_trans h.b h2, fun g hg => hg.elim⟩ ⟨WorldV.off_new h.r h1, WorldV.off_new h.r h2, fun g hg => hg.elim⟩ hk (fun x hx => hx.elim) hZ hmb (fun o _ hh => by simp [hasS, has] at hh) (fun y _ _ Z' hz => by cases hz) (fun k => by rw [List.length_nil, Nat.zero_add]; exact Nat.pow_le_pow_right dM hrk) (by simpa [Maps.size] using hm0) (by simp only [Maps.size, List.length_nil, Nat.zero_add]; exact Nat.pow_le_pow_right dM hrk)
 have Hbeg := hide hbeg
 have Hsome := hide hsome
 have HH := hide h
 have Hrk := hide hrk
 have hmm := @run_makeMap Tryz.prog
 clear hbeg hsome h ho hns hrk
 go_enter Tryz.func20, Tryz.ntmps20
 go_upto_region 2 with (go_at_call 23; refine (Hbeg.out _).mono ?_; rintro e w1 ⟨rfl, hw1⟩; have Hw1 := hide hw1; clear hw1)
 have hw1 := Hw1.out
 have hB1 : Below w.heap.size w w1 := by rw [hw1]; exact ab0
 have hx1 : BoxC w.heap.size (wol V) w1 := by
  rw [hw1]
  have q := BoxC.made w #[.slice V.M.mem.pA V.M.mem.hs.length V.M.mem.pc, .slice V.M.mem.vA V.M.mem.vs.length V.M.mem.vc, .slice V.M.ln.fA V.M.ln.first.length V.M.ln.fc, .slice V.M.ln.lA V.M.ln.logs.length V.M.ln.lc, .map V.M.ln.asks, .slice V.M.sA V.M.steps.length V.M.sc, .int .i64 V.M.crashes, .slice V.tA V.ts.length V.tc, .slice V.sA V.ss.length V.sc] 40
  exact q.below ab0
 have hk1 : RWalk (w.heap.size + 1 + 1 + 1) (w.heap.size + 1) (w.heap.size + 1 + 1) most (fun _ => False) (fun _ => False) (fun _ => []) (.map []) (.map []) w1 := by
  rw [hw1]
  have q := rwalk_new (w.alloc (.cells #[.slice V.M.mem.pA V.M.mem.hs.length V.M.mem.pc, .slice V.M.mem.vA V.M.mem.vs.length V.M.mem.vc, .slice V.M.ln.fA V.M.ln.first.length V.M.ln.fc, .slice V.M.ln.lA V.M.ln.logs.length V.M.ln.lc, .map V.M.ln.asks, .slice V.M.sA V.M.steps.length V.M.sc, .int .i64 V.M.crashes, .slice V.tA V.ts.length V.tc, .slice V.sA V.ss.length V.sc] 40)) most
  simpa using q
 have hs1 : w1.heap.size = w.heap.size + 1 + 1 + 1 + 1 := by rw [hw1]; simp
 have hb2 := Below.alloc (Below.refl w1.heap.size w1) (Nat.le_refl _) (.map #[] 0)
 have hz2 := setM_made w1
 have hB2 := hB1.trans (hb2.mono oM)
 have hsm := Hsome.out (w.heap.size + 1 + 1 + 1) (w.heap.size + 1) (w.heap.size + 1 + 1) w1.heap.size (w1.alloc (.map #[] 0)) oM oM hB2 (hk1.below hb2) hz2 oM
 have Hsm := hide hsm
 have Hz2 := hide hz2
 have HB2 := hide hB2
 have Hs1 := hide hs1
 have hC1 : w.heap.size < w1.heap.size := by omega
 obtain ⟨y0, y1, y2, y3, y4, y5, y6, y7, y8, yf⟩ := box9 hx1
 clear hw1 Hw1 hB1 hk1 hb2 hz2 hB2 hsm hx1 hs1 Hsome Hbeg
 go_wp2_with (first
  | (go_at_call 51; refine Hsm.out.mono ?_; rintro e w3 ⟨ok, G', X', Sn', D', F', rfl, hW3, hG3, hX3, hK3, hd3⟩; have HW3 := hide hW3; have HK3 := hide hK3; have Hd3 := hide hd3; have hs3 := hK3.size; clear hW3 hG3 hX3 hK3 hd3)
  | (go_at_call 24; refine (told_any _ _ _ _ ok _ _ _ _ _ _ HW3.out (fun e => told_room Hrk.out (Hd3.out e).1.c2)).mono ?_; rintro e w4 ⟨v, n4, er, rfl, ht4, hb4⟩; have Hb4 := hide hb4; clear hb4))
 have hB3 : Below w.heap.size w w3 := HB2.out.trans ⟨HK3.out.os, HK3.out.tape, HK3.out.output, HK3.out.size, fun k hk => HK3.out.block k (by have := HB2.out.size; omega) oM oM (fun hh => hh)⟩
 have hfin : ok = true → 0 < Maps.size D' ∧ Maps.size F' ≤ 100000000000 ∧ StrT F' ∧ ∀ x, has F' (.string x) = true ↔ outsP P x := fun e => by
  obtain ⟨hd, _, h0⟩ := Hd3.out e
  refine ⟨h0, told_room Hrk.out hd.c2, strT_owns HW3.out.f, fun x => ⟨fun hx => ?_, fun hx => ?_⟩⟩
  ·rcases hd.l.nf x hx with q | q
   ·simp [has] at q
   ·exact q
  ·rcases hd.dc x hx with q | ⟨z, hz, _⟩
   ·exact q
   ·simp [hasS, has] at hz
 have htok : TOk ok D' F' v n4 er w.heap.size w4 := ⟨fun e => by
  obtain ⟨q1, q2, ss, q3, q4⟩ := ht4.out.1 e
  exact ⟨q1, q2, ss, q3, ownsRow_base_a q4 hB3.size⟩, ht4.out.2⟩
 exact bodyPost_ret (v := .tuple #[v, .int .i64 n4, .int .i64 er]) (by simp [results, Tryz.results20, go_sem]) rfl ⟨ok, v, n4, er, D', F', rfl, hide htok, hide hfin, hB3.trans (Hb4.out.mono hB3.size)⟩
end Go.Proofs.YtnnmenmifphadaaGreatDoor
namespace Go.Proofs.YtnnmenmifphadaaGreatDoor
open Go.RowKit Go.Maps Go.Sort
theorem all_any {B0 L : Nat} {rs : List RowP} {V : WorldV} {P : PW} (w : World) (h : Held B0 L 0 w V P) (ho : P.Of L rs) (hns : ∀ b ∈ P.ss, b = false) (hrk : P.rk ≤ 7) :
  Calls Tryz.prog 10 #[(woV V), .int .i64 3000] w fun e w' => ∃ (ok : Bool) (v : Value) (n er : Int) (D F : DataW Unit), e = .returned (.tuple #[v, .int .i64 n, .int .i64 er]) ∧ Hid (TOk ok D F v n er w.heap.size w') ∧ Hid (ok = true → 0 < Maps.size D ∧ StrT F ∧ ∀ x, has F (.string x) = true ↔ outsP P x) ∧ Below w.heap.size w w' := by
 have hOkW : OkW L rs P := ⟨⟨0, h.i⟩, ho⟩
 obtain ⟨S, F, ok, ha, hl, hroot⟩ := all_left (alike59 L rs) 3000 (P.rk + 1) P (.map []) (.map []) (Nat.lt_succ_self _) hOkW strT_empty strT_empty (fun y _ _ hk => by simp [has] at hk)
 have hlen := h.lens
 have hL := h.l
 cases ok with
 | true =>
  refine (ex_All (rowsE (OkB L rs) B0) B0 (okB_ok _ h.l h.g) 3000 dM dM (P.rk + 1) P S F V w (by rw [allP_rows]; exact ha) h.r ⟨h.s, by omega⟩ ⟨⟨⟨0, h.i, by omega⟩, ho, hns⟩, h.rows, h.t, h.b⟩ h.b).mono ?_
  rintro e w' ⟨v, ss, rfl, hp, hrow, hb⟩
  refine ⟨true, v, _, 0, S, F, rfl, hide ⟨fun _ => ⟨rfl, rfl, ss, hp, hrow⟩, (fun e => by cases e)⟩, hide fun _ => ⟨?_, hl.f, fun x => ⟨fun hx => ?_, fun hx => ?_⟩⟩, hb⟩
  ·rw [← hl.s.len]
   exact List.length_pos_of_mem ((hl.s.mem _).2 (hroot rfl))
  ·rcases hl.nf x hx with q | ⟨y, q1, q2, q3⟩
   ·simp [has] at q
   ·exact ⟨y, q1, q2, q3⟩
  ·obtain ⟨y, q1, q2, q3⟩ := hx
   have := (hl.cl rfl P hOkW (Nat.le_refl _) (hroot rfl)).2 y q1 q2
   rw [← q3]
   exact this
 | false =>
  refine (ex_All_no (rowsE (OkB L rs) B0) B0 (okB_ok _ h.l h.g) 3000 dM dM (P.rk + 1) P S F V w (by rw [allP_rows]; exact ha) h.r ⟨h.s, by omega⟩ ⟨⟨⟨0, h.i, by omega⟩, ho, hns⟩, h.rows, h.t, h.b⟩ h.b).mono ?_
  rintro e w' ⟨rfl, hb⟩
  exact ⟨false, _, _, _, S, F, rfl, hide ⟨(fun e => by cases e), fun _ => ⟨rfl, rfl, rfl⟩⟩, hide (fun e => by cases e), hb⟩
theorem red_far (A : Option Addr) (n cap : Nat) (x : ActsV) (w : World) (ht : Tab w) (hg : 0 < w.heap.size) (hb : (∃ k, k < 3 ∧ 4 < (x.l k).length) ∨ 7 < x.tot 3 ∨ n = 0 ∨ 12 < n) :
  Calls Tryz.prog 6 #[.slice A n cap, .agg #[x.sl 0, x.sl 1, x.sl 2]] w (Ret (.bool true) w) := by
 have hno := fun W => world_no A n cap x W hb
 have Hno := hide hno
 have HTab := hide ht
 clear hno hb ht
 go_enter Tryz.func6, Tryz.ntmps6
 go_wp2_with (first
  | (go_at_call 7; refine (Hno.out _).mono ?_; rintro e w1 ⟨rfl, hb1⟩; have hs1 := hb1.size; (try simp at hs1))
  | (go_at_call 8; refine (awake59_any _ (HTab.out.below (N := w.heap.size) (by first | with_reducible assumption | exact ab0) hg) (by first | omega | (simp; done) | (simp; omega))).mono ?_; rintro e w9 ⟨rfl, hb9⟩))
 go_ret
 exact ⟨rfl, ab0⟩
theorem red_main (A : Option Addr) (n cap : Nat) (ws : List W3) (x : ActsV) (w : World) (ht : Tab w) (hg : 0 < w.heap.size) (hw : ws.length = n) (hr : Rd w w.heap.size 3 A n (ws.flatMap w3c)) (hws : ∀ y ∈ ws, y.okW) (hx : x.R w w.heap.size) (hxo : ∀ k, ∀ a ∈ x.l k, (actP a).new.okW ∧ inI a.l) (h4 : ∀ k, k < 3 → (x.l k).length ≤ 4) (h7 : x.tot 3 ≤ 7) (hn1 : 1 ≤ n) (hn2 : n ≤ 12) :
  Calls Tryz.prog 6 #[.slice A n cap, .agg #[x.sl 0, x.sl 1, x.sl 2]] w (Ret (.bool true) w) := by
 have hok := fun W (hW : Below w.heap.size w W) => world_held A n cap ws x w W hW hg ht hw hr hws hx hxo h4 h7 hn1 hn2
 have Hok := hide hok
 have HTab := hide ht
 have Hof := hide (show (PW0 ws x).Of n (PW0 ws x).rows by rw [← hw]; exact PW0_of ws x)
 have Hrk := hide (show (PW0 ws x).rk ≤ 7 by rw [PW0_rk]; exact h7)
 have Hn := hide (And.intro hn1 hn2)
 clear hok hr hws hx hxo h4 h7 hn1 hn2 ht hw
 go_enter Tryz.func6, Tryz.ntmps6
 go_upto_region 2 with (first
  | (go_at_call 7; refine (Hok.out _ (by first | with_reducible assumption | exact ab0)).mono ?_; rintro e w1 ⟨V, rfl, hH0, hb1⟩; have hs1 := hb1.size; (try simp at hs1); have HH0 := hide hH0; clear hH0))
 go_upto_region 4 with fail
 obtain ⟨w2, hw2⟩ : ∃ W : World, W = (w1.alloc (.cells #[.slice V.M.mem.pA V.M.mem.hs.length V.M.mem.pc, .slice V.M.mem.vA V.M.mem.vs.length V.M.mem.vc, .slice V.M.ln.fA V.M.ln.first.length V.M.ln.fc, .slice V.M.ln.lA V.M.ln.logs.length V.M.ln.lc, .map V.M.ln.asks, .slice V.M.sA V.M.steps.length V.M.sc, .int .i64 V.M.crashes, .slice V.tA V.ts.length V.tc, .slice V.sA V.ss.length V.sc] 40)) := ⟨_, rfl⟩
 have hb12 : Below w1.heap.size w1 w2 := by rw [hw2]; exact ab0
 have hs2 : w2.heap.size = w1.heap.size + 1 := by rw [hw2]; simp
 have hx2 : BoxC w1.heap.size (wol V) w2 := by
  rw [hw2]
  exact BoxC.made w1 #[.slice V.M.mem.pA V.M.mem.hs.length V.M.mem.pc, .slice V.M.mem.vA V.M.mem.vs.length V.M.mem.vc, .slice V.M.ln.fA V.M.ln.first.length V.M.ln.fc, .slice V.M.ln.lA V.M.ln.logs.length V.M.ln.lc, .map V.M.ln.asks, .slice V.M.sA V.M.steps.length V.M.sc, .int .i64 V.M.crashes, .slice V.tA V.ts.length V.tc, .slice V.sA V.ss.length V.sc] 40
 rw [← hw2]
 have hsw : w.heap.size ≤ w1.heap.size := by omega
 have hH2 := HH0.out.1.below hb12
 have hB2 : Below w.heap.size w w2 := (ab0 : Below w.heap.size w w1).trans (hb12.mono hsw)
 have HB2 := hide hB2
 have HX2 := hide hx2
 have hsw2 : w.heap.size ≤ w2.heap.size := by omega
 have hall := fun W (hW : Below w2.heap.size w2 W) => all_any W (hH2.below hW) Hof.out HH0.out.2 Hrk.out
 have hred := fun W (hW : Below w2.heap.size w2 W) => ex_Reduced W (hH2.below hW) Hof.out HH0.out.2 Hrk.out 3000 dM dM
 have Hall := hide hall
 have Hred := hide hred
 have hBr2 : Below w2.heap.size w2 w2 := Below.refl _ _
 obtain ⟨C, hC⟩ : ∃ C, C = w1.heap.size := ⟨_, rfl⟩
 rw [← hC] at HX2 hsw hs2 ⊢
 have hC1 : C < w2.heap.size := by omega
 clear hw2 hb12 hx2 hB2 hC hs2 hs1 hb1 hH2 hall hred HH0
 obtain ⟨y0, y1, y2, y3, y4, y5, y6, y7, y8, yf⟩ := box9 HX2.out
 go_upto_region 5 with (first
  | (go_at_call 10; refine (Hall.out _ (by first | with_reducible assumption | exact ab0)).mono ?_; rintro e w3 ⟨ok1, v1, k1, e1, S1, F1, rfl, ht1, hf1, hb3⟩; have Hb3 := hide hb3; have hs3 := hb3.size; clear hb3))
 have HX3 := hide (HX2.out.below Hb3.out)
 have hB3 := Hb3.out
 have hC3 : C < w3.heap.size := by omega
 clear y0 y1 y2 y3 y4 y5 y6 y7 y8 yf hBr2 Hall
 obtain ⟨y0, y1, y2, y3, y4, y5, y6, y7, y8, yf⟩ := box9 HX3.out
 go_upto_region 6 with (first
  | (go_at_call 20; refine (Hred.out _ (by first | with_reducible assumption | exact ab0)).mono ?_; rintro e w4 ⟨ok2, v2, k2, e2, S2, F2, rfl, ht2, hf2, hb4⟩; have Hb4 := hide hb4; have hs4 := hb4.size; clear hb4))
 have hB4 : Below w.heap.size w w4 := HB2.out.trans ((Hb3.out.trans (Hb4.out.mono Hb3.out.size)).mono hsw2)
 have HB4 := hide hB4
 have hsw4 : w.heap.size ≤ w4.heap.size := by omega
 clear y0 y1 y2 y3 y4 y5 y6 y7 y8 yf hB3 hB4 Hred
 have hno : ∀ {ok : Bool} {v : Value} {k er : Int} {D F : DataW Unit} {B : Nat} {W : World}, TOk ok D F v k er B W → (ok = true ∧ er = 0) ∨ (ok = false ∧ er = 15) := fun {ok v k er D F B W} h => by
  cases ok with
  | true => exact .inl ⟨rfl, (h.1 rfl).2.1⟩
  | false => exact .inr ⟨rfl, (h.2 rfl).2.2⟩
 have Hc1 := hide (hno ht1.out)
 have Hc2 := hide (hno ht2.out)
 clear hno
 have hcase : (ok1 = true ∧ ok2 = true ∧ e1 = 0 ∧ e2 = 0) ∨ (e1 = 0 ∧ e2 = 15) ∨ (e1 = 15 ∧ e2 = 0) ∨ (e1 = 15 ∧ e2 = 15) := by
  rcases Hc1.out with ⟨a, b⟩ | ⟨a, b⟩ <;> rcases Hc2.out with ⟨c, d⟩ | ⟨c, d⟩
  ·exact .inl ⟨a, c, b, d⟩
  ·exact .inr (.inl ⟨b, d⟩)
  ·exact .inr (.inr (.inl ⟨b, d⟩))
  ·exact .inr (.inr (.inr ⟨b, d⟩))
 clear Hc1 Hc2
 rcases hcase with ⟨rfl, rfl, rfl, rfl⟩ | hcase
 ·obtain ⟨hk1, _, ss1, hp1, hr1⟩ := ht1.out.1 rfl
  obtain ⟨hk2, _, ss2, hp2, hr2⟩ := ht2.out.1 rfl
  obtain ⟨g1, g2, g3⟩ := hf1.out rfl
  obtain ⟨f1, f2, f3, f4⟩ := hf2.out rfl
  have hpp : ss1.Perm ss2 := hp1.trans ((StrT.perm g2 f3 (fun x => (g3 x).trans (f4 x).symm)).trans hp2.symm)
  have hms : ss1.mergeSort (fun x y => decide (x ≤ y)) = ss2.mergeSort (fun x y => decide (x ≤ y)) := mergeSort_of_perm hpp
  have hlb : ss1.length ≤ 100000000000 := by
   rw [hpp.length_eq, hp2.length_eq, f3.len]
   exact f2
  have heq := fun (W : World) (hW : Below w4.heap.size w4 W) => equal_rowsB v1 v2 (ss1.mergeSort (fun x y => decide (x ≤ y))) w2.heap.size w3.heap.size W (by
   have q := own_below hr1 (Hb4.out.trans (hW.mono Hb4.out.size))
   rwa [List.length_mergeSort]) (by
   have q := own_below hr2 hW
   rw [hms, List.length_mergeSort]
   exact q) (by rw [List.length_mergeSort]; exact hlb)
  have Heq := hide heq
  have hq1 : 0 < k1 := by omega
  have hq2 : 0 < k2 := by omega
  have hBr4 : Below w4.heap.size w4 w4 := Below.refl _ _
  clear hk1 hk2 hp1 hr1 hp2 hr2 g1 g2 g3 f1 f2 f3 f4 hpp hms hlb heq ht1 ht2 hf1 hf2 Hb3 Hb4
  go_wp2_with (first
   | (go_at_call 8; refine (awake59_any _ (HTab.out.below (N := w.heap.size) HB4.out hg) oM).mono ?_; rintro e w5 ⟨rfl, hb5⟩; have hs5 := hb5.size)
   | (go_at_call 11; refine (Heq.out _ (by first | with_reducible assumption | exact ab0)).mono ?_; rintro e w6 ⟨rfl, hb6⟩; have hs6 := hb6.size))
  go_ret
  exact ⟨rfl, HB4.out.trans ((ab0 : Below w4.heap.size w4 w6).mono hsw4)⟩
 ·clear ht1 ht2 hf1 hf2 Hb3 Hb4
  rcases hcase with ⟨rfl, rfl⟩ | ⟨rfl, rfl⟩ | ⟨rfl, rfl⟩
  all_goals
   go_wp2_with (go_at_call 8; refine (awake59_any _ (HTab.out.below (N := w.heap.size) HB4.out hg) oM).mono ?_; rintro e w5 ⟨rfl, hb5⟩; have hs5 := hb5.size)
   go_ret
   exact ⟨rfl, HB4.out.trans (hb5.mono hsw4)⟩
end Go.Proofs.YtnnmenmifphadaaGreatDoor
namespace Go.Proofs.YtnnmenmifphadaaGreatDoor.lawRed
open Go.ChangeShapes Go.WideShapes Go.ChangeAt Go.RowKit
theorem own : ownKnob Tryz.prog.godebug = none := by kernel_rfl
theorem tabMet {W : World} (h : laidMetH Tryz.prog Rows.exploreReducedRow.laid W) : Tab W ∧ 0 < W.heap.size := by
 have h1 : laidMet Tryz.prog Rows.exploreReducedRow.laid W := h
 have ht : Tab W := Lib.tabIs_of_head (g := 0) (rest := []) kR kR Tryz.underlying264 Tryz.underlying162 kR kR (laidMet_drop (laidMet_drop h1))
 refine ⟨ht, ?_⟩
 have q := ht.cell (show Tryz.prog.globalNamed "internal/strconv.uint64pow10" = some 0 by kernel_rfl) 0 dM
 exact cell_lt q
theorem walk : LawWalkL Tryz.prog 6 #[22, 25] Rows.exploreReducedRow.laid := by
 intro H enc W base args ds p hval hA hlt hL
 obtain ⟨v0, v1, d0, d1, p0, p1, rfl, rfl, rfl, h0, h1⟩ := trodAll_two hA
 obtain ⟨A, n, cap, e0⟩ := okWide_slice Tryz.underlying22 (hval 0 22 v0 rfl rfl)
 obtain ⟨x, rfl, hx, hxo⟩ := rd_rows59 (hval 1 25 v1 rfl rfl) h1
 subst e0
 obtain ⟨fu0, hf0⟩ := h0
 obtain ⟨A', cap', ws, e0, hws, hr⟩ := rd_words59 hf0
 injection e0 with a1 a2 a3
 subst a1 a3
 obtain ⟨ht, hg⟩ := tabMet hL
 rw [← a2] at hr
 by_cases hbad : (∃ k, k < 3 ∧ 4 < (x.l k).length) ∨ 7 < x.tot 3 ∨ n = 0 ∨ 12 < n
 ·exact red_far A n cap x W ht hg hbad
 ·have h4 : ∀ k, k < 3 → (x.l k).length ≤ 4 := fun k hk => by
   rcases Nat.lt_or_ge 4 (x.l k).length with h | h
   ·exact absurd (.inl ⟨k, hk, h⟩) hbad
   ·exact h
  have h5 : ¬ (7 < x.tot 3 ∨ n = 0 ∨ 12 < n) := fun h => hbad (.inr h)
  exact red_main A n cap ws x W ht hg a2.symm hr hws hx (fun k a ha => hxo k a ha) h4 oM oM oM
def cellsOfD : DataW Unit → Array Value
 | .agg xs => (xs.map fun | .lit (.int k n) => .int k n | _ => undef).toArray
 | _ => #[]
def layD (d : DataW Unit) : Obj → Obj
 | .cells _ t frozen => .cells (cellsOfD d) t frozen
 | o => o
noncomputable def laidWorld (os : Os) : World :=
 { World.holding Tryz.prog os ⟨#[], #[], []⟩ with heap := (((World.holding Tryz.prog os ⟨#[], #[], []⟩).heap.modify 0 (layD Rows.laid_internal_strconv_uint64pow10)).modify 2 (layD Rows.laid_math_bits_deBruijn32tab)).modify 3 (layD Rows.laid_math_bits_deBruijn64tab) }
theorem laid_met (os : Os) : laidMet Tryz.prog Rows.exploreReducedRow.laid ((laidWorld os).forCall (fun _ _ => 0) ⟨#[], #[.slice none 0 0, .agg #[.slice none 0 0, .slice none 0 0, .slice none 0 0]], []⟩).memory :=
 laidMet_of_run' 8 kR kR
theorem reads (os : Os) {H : Type} (enc : TypeId × Value → H) : ∃ places, DataW.whole enc Tryz.prog ((laidWorld os).forCall (fun _ _ => 0) ⟨#[], #[.slice none 0 0, .agg #[.slice none 0 0, .slice none 0 0, .slice none 0 0]], []⟩).memory Tryz.f6.params.toList Rows.exploreReducedSpec.vars false (#[.slice none 0 0, .agg #[.slice none 0 0, .slice none 0 0, .slice none 0 0]] : Array Value).toList 8 = some ([.nil, .agg [.nil, .nil, .nil]], [], places) :=
 ⟨[], by kernel_rfl⟩
theorem lifted (os : Os) (started : os.Started) (H : Type) (enc : TypeId × Value → H) (F : Stop.Interp) :
  ReturnsInHanded {} Tryz.checked os 6 .any ((OpenSpec.ofChange Rows.exploreReducedSpec).preRow enc Tryz.prog Tryz.f6 Rows.exploreReducedRow.domain false Rows.exploreReducedRow.laid) (((OpenSpec.ofChange Rows.exploreReducedSpec).at F).post enc Tryz.prog Tryz.f6 false true false false) := by
 obtain ⟨places, hx⟩ := reads os enc
 refine returnsInHanded_of_row (C := Tryz.checked) (s := OpenSpec.ofChange Rows.exploreReducedSpec) own started kR Tryz.func6
  (witness_row_at (enc := enc) (C := Tryz.checked) false (laidWorld os) #[.slice none 0 0, .agg #[.slice none 0 0, .slice none 0 0, .slice none 0 0]] rfl kR kR kR
   (OpenSpec.preRow_of_cond 8 hx kR (fun k hk => by cases hk) kR (laid_met os))) ?_
 intro W base args ds gs before hval hW _ _ _ hL _ _
 exact law_contract (s := Rows.exploreReducedSpec) kR kR Tryz.underlying4 kR ⟨rfl, fun H ds h => by match ds, h with | [d1, d2], _ => exact ⟨rfl, rfl, rfl⟩⟩ (by rw [Tryz.params6]; exact walk) W base args ds gs before hval hW hL
theorem over : Rows.exploreReducedRow.holds Tryz.pinned (OpenSpec.ofChange Rows.exploreReducedSpec) :=
 OpenClaim.holds_of_cond 6 Tryz.f6 rfl rfl rfl rfl rfl rfl rfl ⟨rfl, rfl, rfl, rfl, rfl⟩ rfl rfl rfl rfl rfl kR Tryz.func6 kR
  (of_decide_eq_true kR) (by unfold Func.isWrapper; first | (rw [if_pos (by decide +kernel)]; kernel_rfl) | (rw [if_neg (by decide +kernel)]; exact ⟨rfl, rfl⟩))
  (fun os started H enc _ F => by rw [OpenClaim.pre_eq_preRow]; exact lifted os started H enc F)
theorem plainLaw (f : FuncId) (fn : Func) (hf : Tryz.pinned.checked.prog.funcNamed "simulcast/simulcastlaw59.ExploreReduced" = some f) (hfn : Tryz.pinned.checked.prog.funcs[f]? = some fn) :
  true = Tryz.pinned.checked.prog.looks [] ∧ ∀ (j : Nat) t, fn.params[j]? = some t → Tryz.pinned.checked.prog.wantsStandIn t = false := by
 obtain rfl : f = 6 := Option.some.inj ((show Tryz.prog.funcNamed "simulcast/simulcastlaw59.ExploreReduced" = some 6 by kernel_rfl).symm.trans hf) |>.symm
 obtain rfl : fn = Tryz.f6 := (Option.some.inj (Tryz.func6.symm.trans hfn)).symm
 refine ⟨by kernel_rfl, fun j t ht => ?_⟩
 rw [Tryz.params6] at ht
 have hm := Array.mem_of_getElem? ht
 have hall : ∀ t ∈ (#[22, 25] : Array TypeId), Tryz.prog.wantsStandIn t = false := by
  intro t h
  simp only [List.mem_toArray, List.mem_cons, List.not_mem_nil, or_false] at h
  rcases h with rfl | rfl
  all_goals kernel_rfl
 exact hall t hm
theorem card : Rows.ExploreReducedCardSaid :=
 Claim7.holds_tied_plain_at .later [] _ _ _ _ over (fun _ h => by cases h) kR (fun _ h => by cases h) exploreReduced_row_tie rfl ⟨rfl, rfl⟩ kR rfl plainLaw kR
theorem proved : Rows.ExploreReducedCardSaid := card
end Go.Proofs.YtnnmenmifphadaaGreatDoor.lawRed
