/- What a search leaves as it was: all but its two maps. -/
import Derived.Test.YtnnmenmifphadaaGreatDoorU19
import Derived.Test.YtnnmenmifphadaaGreatDoorU32
set_option linter.unusedSimpArgs false
set_option linter.unusedVariables false
namespace Go.Proofs.YtnnmenmifphadaaGreatDoor
open Go.RowKit Go.Maps
structure Kept (b1 b2 : Nat) (w w' : World) : Prop where
 os : w'.os = w.os
 tape : w'.tape = w.tape
 output : w'.output = w.output
 size : w.heap.size ≤ w'.heap.size
 block : ∀ k, k < w.heap.size → k ≠ b1 → k ≠ b2 → w'.heap[k]? = w.heap[k]?
 world : ∀ V : WorldV, V.M.mem.hs.length ≤ 4096 → V.M.ln.asks ≠ some b1 ∧ V.M.ln.asks ≠ some b2 → V.R w → V.R w'
theorem Kept.refl (b1 b2 : Nat) (w : World) : Kept b1 b2 w w := ⟨rfl, rfl, rfl, Nat.le_refl _, fun _ _ _ _ => rfl, fun _ _ _ h => h⟩
theorem Kept.trans {b1 b2 : Nat} {a b c : World} (h : Kept b1 b2 a b) (k : Kept b1 b2 b c) : Kept b1 b2 a c :=
 ⟨k.os.trans h.os, k.tape.trans h.tape, k.output.trans h.output, Nat.le_trans h.size k.size, fun i hi g1 g2 => (k.block i (Nat.lt_of_lt_of_le hi h.size) g1 g2).trans (h.block i hi g1 g2), fun V hL ha hR => k.world V hL ha (h.world V hL ha hR)⟩
theorem Kept.of {b1 b2 : Nat} {w w' : World} (hb : Below w.heap.size w w') : Kept b1 b2 w w' :=
 ⟨hb.os, hb.tape, hb.output, hb.size, fun k hk _ _ => hb.block k hk, fun _ _ _ h => h.below hb⟩
theorem Kept.grown1 {b1 b2 : Nat} {w w' : World} (hg : w.grownBy w' (some b1)) (hC : StrM b1 w) : Kept b1 b2 w w' :=
 ⟨hg.os, hg.tape, hg.output, hg.size, fun k hk g1 _ => hg.block k hk (by intro e; injection e with e; exact g1 e), fun _ hL ha h => h.grown hL ha.1 hC hg⟩
theorem Kept.grown2 {b1 b2 : Nat} {w w' : World} (hg : w.grownBy w' (some b2)) (hC : StrM b2 w) : Kept b1 b2 w w' :=
 ⟨hg.os, hg.tape, hg.output, hg.size, fun k hk _ g2 => hg.block k hk (by intro e; injection e with e; exact g2 e), fun _ hL ha h => h.grown hL ha.2 hC hg⟩
theorem Kept.below {b1 b2 B : Nat} {w w' : World} (h : Kept b1 b2 w w') (h1 : B ≤ b1) (h2 : B ≤ b2) (hB : B ≤ w.heap.size) : Below B w w' :=
 ⟨h.os, h.tape, h.output, h.size, fun k hk => h.block k oM oM oM⟩
theorem Kept.obj {b1 b2 k : Nat} {w w' : World} {o : Obj} (h : Kept b1 b2 w w') (ho : w.heap[k]? = some o) (h1 : k ≠ b1) (h2 : k ≠ b2) : w'.heap[k]? = some o :=
 (h.block k (Array.getElem?_eq_some_iff.1 ho).1 h1 h2).trans ho
theorem Kept.rd {b1 b2 B size n : Nat} {A : Option Addr} {xs : List Value} {w w' : World} (h : Kept b1 b2 w w') (hr : Rd w B size A n xs) (hs : 0 < size) (hB : B ≤ w.heap.size) (hC1 : ∃ es c, w.heap[b1]? = some (.map es c)) (hC2 : ∃ es c, w.heap[b2]? = some (.map es c)) : Rd w' B size A n xs := by
 refine ⟨hr.1, fun hn => ?_⟩
 obtain ⟨b, off, e, hb, hc⟩ := hr.2 hn
 have hl : 0 < xs.length := by rw [hr.1]; exact Nat.mul_pos hn hs
 have q := hc 0 _ (List.getElem?_eq_getElem hl)
 obtain ⟨c, t, fr, hob⟩ := block_of_cell q
 have h1 : b ≠ b1 := by
  rintro rfl
  obtain ⟨es, c, hm⟩ := hC1
  rw [hm] at hob
  cases hob
 have h2 : b ≠ b2 := by
  rintro rfl
  obtain ⟨es, c, hm⟩ := hC2
  rw [hm] at hob
  cases hob
 exact ⟨b, off, e, hb, fun j u hu => (World.cell?_of_block (h.block b oM h1 h2)).trans (hc j u hu)⟩
theorem ownsMap_refit {H : Type} {P : Program} {k : TypeId} {R : Value → Option (DataW H × List MemPlace)} {b n : Nat} {D : DataW H} {w : World} (h : w.ownsMap P k R b n D) : w.ownsMap P k R b (Maps.size D) D := by
 obtain ⟨es, clock, hb, F, _, rfl⟩ := h
 exact ⟨es, clock, hb, F, by simp [Maps.size, length_sorted], rfl⟩
theorem Walk.maps {kb b1 b2 n : Nat} {most : Int} {S F : DataW Unit} {w : World} (h : Walk kb b1 b2 most n S F w) : (∃ es c, w.heap[b1]? = some (.map es c)) ∧ ∃ es c, w.heap[b2]? = some (.map es c) := by
 obtain ⟨_, _, _, _, ⟨es, c, h5, _⟩, ⟨es', c', h6, _⟩⟩ := h
 exact ⟨⟨es, c, h5⟩, ⟨es', c', h6⟩⟩
theorem Walk.put1 {kb b1 b2 n : Nat} {most : Int} {S F S' : DataW Unit} {w w' : World} (h : Walk kb b1 b2 most n S F w) (hg : w.grownBy w' (some b1)) (ho : w'.ownsMap Tryz.prog 9 nilS b1 (n + 1) S') : Walk kb b1 b2 most (n + 1) S' F w' := by
 obtain ⟨h1, h2, h3, h4, h5, h6⟩ := h
 exact ⟨(hg.block kb (Array.getElem?_eq_some_iff.1 h1).1 (by intro e; injection e with e; exact h3 e)).trans h1, h2, h3, h4, ho, (h6.kept hg (by intro e; injection e with e; exact h2 e.symm)).mono oM⟩
theorem Walk.put2 {kb b1 b2 n : Nat} {most : Int} {S F F' : DataW Unit} {w w' : World} (h : Walk kb b1 b2 most n S F w) (hg : w.grownBy w' (some b2)) (ho : w'.ownsMap Tryz.prog 9 (plainElem Tryz.prog 4) b2 (n + 1) F') : Walk kb b1 b2 most (n + 1) S F' w' := by
 obtain ⟨h1, h2, h3, h4, h5, h6⟩ := h
 exact ⟨(hg.block kb (Array.getElem?_eq_some_iff.1 h1).1 (by intro e; injection e with e; exact h4 e)).trans h1, h2, h3, h4, (h5.kept hg (by intro e; injection e with e; exact h2 e)).mono oM, ho⟩
theorem Walk.refit {kb b1 b2 n m : Nat} {most : Int} {S F : DataW Unit} {w : World} (h : Walk kb b1 b2 most n S F w) (h1 : Maps.size S ≤ m) (h2 : Maps.size F ≤ m) : Walk kb b1 b2 most m S F w :=
 ⟨h.1, h.2.1, h.2.2.1, h.2.2.2.1, (ownsMap_refit h.2.2.2.2.1).mono h1, (ownsMap_refit h.2.2.2.2.2).mono h2⟩
theorem Walk.str {kb b1 b2 n : Nat} {most : Int} {S F : DataW Unit} {w : World} (h : Walk kb b1 b2 most n S F w) : StrM b1 w ∧ StrM b2 w := ⟨StrM.of h.2.2.2.2.1, StrM.of h.2.2.2.2.2⟩
end Go.Proofs.YtnnmenmifphadaaGreatDoor
