/- make([]T, n) as one step. No program. -/
import Derived.Test.YtnnmenmifphadaaGreatDoorU05
set_option linter.unusedSimpArgs false
set_option linter.unusedVariables false
namespace Go.Proofs.YtnnmenmifphadaaGreatDoor
open Go.RowKit
theorem made_told {α : Type} (g : α → List Value) (a : α) (s : Nat) (hs : 0 < s) (z : Array Value) (hz : z.toList = g a) (hg : ∀ a, (g a).length = s) (n : Nat) : (madeCells z (n * s)).toList = (List.replicate n a).flatMap g := by
 have hzs : z.size = s := by rw [← Array.length_toList, hz, hg]
 have hlen : ((List.replicate n a).flatMap g).length = n * s := by
  induction n with
  | zero => simp
  | succ n ih => rw [List.replicate_succ, List.flatMap_cons, List.length_append, ih, hg, Nat.succ_mul]; omega
 apply List.ext_getElem?
 intro k
 by_cases hk : k < n * s
 ·have h1 : k / s < n := Nat.div_lt_of_lt_mul (by rwa [Nat.mul_comm] at hk)
  have h2 := told_at hg (List.replicate n a) (k / s) a (by simp [List.getElem?_replicate, h1]) (k % s) (Nat.mod_lt _ hs)
  rw [show k / s * s + k % s = k from by rw [Nat.mul_comm]; exact Nat.div_add_mod k s] at h2
  have h3 : k % s < z.size := by rw [hzs]; exact Nat.mod_lt k hs
  rw [h2, ← hz, Array.getElem?_toList, Array.getElem?_toList]
  simp only [madeCells]
  rw [Array.getElem?_map, Array.getElem?_range]
  simp [hk, hzs, h3, Nat.mod_lt k hs]
 ·rw [List.getElem?_eq_none (by rw [Array.length_toList, size_madeCells]; omega), List.getElem?_eq_none (by rw [hlen]; omega)]
theorem wp_make_rows {P : Program} {o : Oper} {a : Act} {w : World} {K : Act → World → Prop} {Q : Exit → Act → World → Prop} (l c : Operand) (t : TypeId) (hop : o.op = Op.makeSlice t l c)
  (e : TypeId) (i : TypeInfo) (z : Value) (size bytes : Nat) (h1 : P.underlying t = some (.slice e)) (h2 : P.info? e = some i) (h3 : i.zero = some z) (h4 : i.size = size) (h5 : i.bytes = bytes)
  (kl kc : IntKind) (n : Nat) (hl : a.eval l = .int kl (n : Int)) (hc : a.eval c = .int kc (n : Int)) (b2 : bytes * n ≤ 281474976710656) (b3 : n ≤ maxLen) (xs : List Value) (hx : (madeCells z.cells (n * size)).toList = xs)
  (hK : ∀ w', Hid (w'.ownsRow w.heap.size e size (.slice (some ⟨w.heap.size, 0, none⟩) n n) n xs) → Below w.heap.size w w' → w.heap.size < w'.heap.size → K (a.put o.dst (.slice (some ⟨w.heap.size, 0, none⟩) n n)) w') :
  Oper.wp P o a w K Q := by
 subst h5 hx
 obtain ⟨w', hrun, r1, r2⟩ := run_make_full (P := P) w w.heap.size t e i z size h1 h2 h3 h4 kl kc n b2 b3 (Nat.le_refl _)
 unfold Oper.wp
 simp [execOp, hop, hl, hc, hrun, Result.andThen]
 refine hK w' r1 (Below.grown (Below.refl _ _) r2 (Nat.le_refl _) (fun k hk => by cases hk)) ?_
 obtain ⟨_, h⟩ := r1
 rcases h with ⟨e1, _⟩ | ⟨g', cap', cur, e1, hb, hg, _⟩
 ·cases e1
 ·injection e1 with e1 _ _
  injection e1 with e1
  injection e1 with e1 _
  subst e1
  exact (Array.getElem?_eq_some_iff.1 hg).1
end Go.Proofs.YtnnmenmifphadaaGreatDoor
