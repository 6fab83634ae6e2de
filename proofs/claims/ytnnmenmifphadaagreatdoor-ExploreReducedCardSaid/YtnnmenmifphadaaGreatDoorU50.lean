/- The builtin append of one element of one cell onto a row: in the row's block, or in a new one. -/
import Derived.Test.YtnnmenmifphadaaGreatDoorU49
set_option linter.unusedSimpArgs false
set_option linter.unusedVariables false
namespace Go.Proofs.YtnnmenmifphadaaGreatDoor
open Go.RowKit
set_option maxRecDepth 100000
def Refilled (g : Nat) (w w' : World) : Prop := ∃ (e : TypeId) (cur cur' : Array Value), w.heap[g]? = some (.cells cur e (0, 0)) ∧ cur'.size = cur.size ∧ Below w.heap.size (setFrom w g 0 cur'.toList) w'
theorem setFrom_obj {g : Nat} {e : TypeId} {fr : Nat × Nat} : ∀ (l : List Value) (k : Nat) (w : World) (cur : Array Value), w.heap[g]? = some (.cells cur e fr) → k + l.length ≤ cur.size → ∃ cur', (setFrom w g k l).heap[g]? = some (.cells cur' e fr) ∧ cur'.size = cur.size ∧ (∀ j, j < k → cur'[j]? = cur[j]?) ∧ ∀ j, j < l.length → cur'[k + j]? = l[j]?
 | [], k, w, cur, h, _ => ⟨cur, h, rfl, fun _ _ => rfl, fun j hj => by simp at hj⟩
 | x :: l, k, w, cur, h, hl => by
  rw [List.length_cons] at hl
  have h1 : (w.setCell ⟨g, k, none⟩ x).heap[g]? = some (.cells (cur.setIfInBounds k x) e fr) := by
   simp [World.setCell, Array.getElem?_modify, h]
  obtain ⟨cur', e1, e2, e3, e4⟩ := setFrom_obj l (k + 1) (w.setCell ⟨g, k, none⟩ x) (cur.setIfInBounds k x) h1 (by simp; omega)
  refine ⟨cur', e1, by rw [e2]; simp, fun j hj => ?_, fun j hj => ?_⟩
  ·rw [e3 j oM]
   simp [Array.getElem?_setIfInBounds, show k ≠ j by omega]
  ·cases j with
   | zero =>
    rw [Nat.add_zero, e3 k oM]
    simp [Array.getElem?_setIfInBounds]
    omega
   | succ j =>
    have := e4 j (by simpa using hj)
    rw [show k + (j + 1) = k + 1 + j by omega, this]
    rfl
theorem refilled_row {w : World} {g : Nat} {e : TypeId} {cur cur' : Array Value} (hg : w.heap[g]? = some (.cells cur e (0, 0))) (hs : cur'.size = cur.size) : Refilled g w (w.setRow g cur') := by
 have hgs := grownBy_setFrom g cur'.toList 0 w
 refine ⟨e, cur, cur', hg, hs, hgs.os.symm, hgs.tape.symm, hgs.output.symm, by rw [setFrom_size]; simp, fun k hk => ?_⟩
 by_cases hk2 : k = g
 ·subst hk2
  obtain ⟨c2, e1, e2, _, e4⟩ := setFrom_obj cur'.toList 0 w cur hg (by simp [hs])
  rw [setRow_heap w k cur cur' e (0, 0) hg, e1]
  have : c2 = cur' := by
   refine Array.ext_getElem? (fun j => ?_)
   by_cases hj : j < cur'.size
   ·have := e4 j (by simpa using hj)
    rw [Nat.zero_add] at this
    rw [this, Array.getElem?_toList]
   ·rw [Array.getElem?_eq_none oM, Array.getElem?_eq_none oM]
  rw [this]
 ·rw [setRow_other w g k cur' hk2]
  exact ((grownBy_setFrom g cur'.toList 0 w).block k hk (by intro e; injection e with e; exact hk2 e)).symm
theorem run_append_1 {P : Program} (w : World) (t ty e : TypeId) (i : TypeInfo) (z : Value) (bytes : Nat) (ht : P.underlying t = some (.slice e)) (hi : P.info? e = some i) (hz : i.zero = some z)
  (hsize : i.size = 1) (hby : i.bytes = bytes) (hzs : z.cells.size = 1) (v : Value) (n : Nat) (xs : List Value) (hown : w.ownsRow 0 e 1 v n xs) (a : Addr) (c : Nat) (u : Value) (hu : w.cell? a = some u) (h1 : u.oneCell' = true)
  (h63 : n + 1 ≤ maxLen) (hbytes : (n + 1) * bytes ≤ 140737488355328) :
  ∃ g' c' w', (Builtin.append_ #[t, t] ty #[v, .slice (some a) 1 c]).run P w = .ok (.slice (some ⟨g', 0, none⟩) (n + 1) c') w' ∧ w'.ownsRow 0 e 1 (.slice (some ⟨g', 0, none⟩) (n + 1) c') (n + 1) (xs ++ [u]) ∧ ((v.ownBlock = some g' ∧ Refilled g' w w') ∨ (g' = w.heap.size ∧ Below w.heap.size w w')) := by
 have hnews : ∀ (j : Nat) (y : Value), ([u] : List Value)[j]? = some y → w.cell? (a.add j) = some y := fun j y hy => by
  cases j with
  | zero => simp only [List.getElem?_cons_zero, Option.some.injEq] at hy; subst hy; simpa [Addr.add] using hu
  | succ j => simp at hy
 have h1' : ∀ y ∈ [u], y.oneCell' = true := fun y hy => by rw [List.mem_singleton] at hy; subst hy; exact h1
 have hsmall : n + 1 ≤ 9223372036854775807 := by simp only [maxLen] at h63; omega
 obtain ⟨v', w', hr', h2, h3⟩ := run_append_any (P := P) w 0 t ty e i z 1 bytes ht hi hz hsize hby hzs dM v n xs hown (some a) 1 c [u] rfl (fun _ => ⟨a, rfl, hnews⟩) h1' h63 hbytes (Nat.zero_le _)
 rcases hown.2 with ⟨rfl, rfl⟩ | ⟨g, cap, cur, rfl, _, hg, hnc, hcm, hcs, htake⟩
 ·have hrun := run_append_nil (P := P) w t ty e i z ht hi hz a 1 c [u] (by rw [hsize]; rfl) hnews dM dM (by rw [hby]; omega)
  rw [hrun] at hr'
  injection hr' with q1 q2
  subst q1 q2
  exact ⟨_, _, _, hrun, h2, .inr ⟨rfl, ((Below.refl _ _).drew).alloc (Nat.le_refl _) _⟩⟩
 ·by_cases hroom : n + 1 ≤ cap
  ·have hrun := run_append_room (P := P) w t ty e i ht hi g n cap cur hg a 1 c [u] (by rw [hsize]; rfl) hnews h1' hroom (by rw [hsize]; simp; omega)
   rw [hrun] at hr'
   injection hr' with q1 q2
   subst q1 q2
   refine ⟨_, _, _, hrun, h2, .inl ⟨rfl, refilled_row hg ?_⟩⟩
   rw [hsize]
   simp
   omega
  ·have holds : ∀ (j : Nat) (y : Value), xs[j]? = some y → w.cell? ((⟨g, 0, none⟩ : Addr).add j) = some y := fun j y hy => by
    have hn : 0 < n := by
     have h0 := (List.getElem?_eq_some_iff.1 hy).1
     have h4 := hown.1
     omega
    obtain ⟨g', c', e', _, _, hr⟩ := own_some hown hn
    cases e'
    obtain ⟨b, off, e2, _, hc⟩ := hr.2 hn
    cases e2
    have q := hc j y hy
    rw [Nat.zero_add] at q
    by_cases hj : j = 0
    ·subst hj; simpa [Addr.add] using q
    ·simpa [Addr.add, hj] using q
   have hrun := run_append_grow (P := P) w t ty e i z ht hi hz ⟨g, 0, none⟩ n cap xs (by rw [hsize]; simpa using hown.1) holds a 1 c [u] (by rw [hsize]; rfl) hnews oM oM (growslice_fits oM (by rw [hby]; exact hbytes))
   rw [hrun] at hr'
   injection hr' with q1 q2
   subst q1 q2
   exact ⟨_, _, _, hrun, h2, .inr ⟨rfl, ((Below.refl _ _).drew).alloc (Nat.le_refl _) _⟩⟩
end Go.Proofs.YtnnmenmifphadaaGreatDoor
