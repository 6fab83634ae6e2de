/- Slices that came in, opened by their elements' cells. No program is named here. -/
import Derived.Deep.Strs
import Derived.Test.YtnnmenmifphadaaGreatDoorU05
set_option linter.unusedSimpArgs false
set_option linter.unusedVariables false
namespace Go.Proofs.YtnnmenmifphadaaGreatDoor
open Go.ChangeShapes Go.WideShapes Go.ChangeAt Go.RowKit Go.Deep
section
variable {H : Type} {enc : TypeId × Value → H} {P : Program} {w : World} {base : Nat} {spare : Nat → Bool} {held : Bool}
theorem rd_cells_c {t e : TypeId} {C : Nat} {u : Value} {y : DataW H × List MemPlace} {fuel : Nat} (ht : P.underlying t = some (.slice e)) (hC : P.cellsOf e = C) (hpos : 0 < C) (hf : DataW.trod enc P w base spare held fuel t [u] = some y) :
  ∃ (A : Option Addr) (n cap : Nat) (xs : List Value), u = .slice A n cap ∧ n ≤ cap ∧ n ≤ maxLen ∧ Rd w w.heap.size C A n xs ∧
   ∀ i, i < n → ∃ (m : Nat) (cs : List Value) (y : DataW H × List MemPlace), cs.length = C ∧ (∀ j, j < C → xs[i * C + j]? = cs[j]?) ∧ DataW.trod enc P w base spare held m e cs = some y := by
 rcases open_slice ht hf with ⟨hcs, hx⟩ | ⟨a, n, cap, m, fu, D, Pl, hcs, hb, hl, hm, hmm, hx, hi⟩
 ·injection hcs with hcs _
  subst hcs
  exact ⟨none, 0, 0, [], rfl, Nat.zero_le _, Nat.zero_le _, Rd.nil _ _ _ _, fun i hi => absurd hi (Nat.not_lt_zero i)⟩
 ·injection hcs with hcs _
  subst hcs
  have hlen : n ≤ m := by rw [hmm]; split <;> omega
  have key : ∀ i, i < n → ∃ cs : List Value, cs.length = C ∧ (∀ j, j < C → w.cell? (a.add (i * C + j)) = cs[j]?) ∧ ∃ y, DataW.trod enc P w base spare held fu e cs = some y := by
   intro i hin
   obtain ⟨cs', hc, ht'⟩ := hi i oM
   rw [hC] at hc
   obtain ⟨_, hcl, hat⟩ := World.cells?_some hc
   exact ⟨cs', hcl, fun j hj => by rw [← Go.Deep.add_add]; exact hat j hj, _, ht'⟩
  let F : Nat → Value := fun q => (w.cell? (a.add q)).getD undef
  have hF : ∀ q, q < n * C → w.cell? (a.add q) = some (F q) := by
   intro q hq
   have h1 : q / C < n := Nat.div_lt_of_lt_mul (by rw [Nat.mul_comm]; exact hq)
   have h2 : q % C < C := Nat.mod_lt _ hpos
   obtain ⟨cs, hl, hj, _⟩ := key (q / C) h1
   have h3 := hj (q % C) h2
   rw [Nat.mul_comm, Nat.div_add_mod] at h3
   show _ = some ((w.cell? (a.add q)).getD undef)
   rw [h3, List.getElem?_eq_getElem oM]
   rfl
  refine ⟨some a, n, cap, (List.range (n * C)).map F, rfl, hl, by omega, ⟨by simp, fun hn => ?_⟩, fun i hin => ?_⟩
  ·obtain ⟨b, off, rfl, hb', hcell'⟩ := plain_of_cells (n := n * C) (f := F) hF (Nat.mul_pos hn hpos)
   refine ⟨b, off, rfl, hb', fun j u hu => ?_⟩
   rw [List.getElem?_map, Option.map_eq_some_iff] at hu
   obtain ⟨z, hz1, rfl⟩ := hu
   obtain ⟨hz2, hz3⟩ := List.getElem?_eq_some_iff.1 hz1
   rw [List.length_range] at hz2
   rw [List.getElem_range] at hz3
   subst hz3
   exact hcell' _ hz2
  ·obtain ⟨cs, hl, hj, y, hy⟩ := key i hin
   refine ⟨fu, cs, y, hl, fun j hjC => ?_, hy⟩
   have hq : i * C + j < n * C := by
    have : (i + 1) * C ≤ n * C := Nat.mul_le_mul_right _ hin
    rw [Nat.succ_mul] at this
    omega
   rw [List.getElem?_map, List.getElem?_range hq]
   show some (F _) = _
   rw [← hF _ hq, hj j hjC]
theorem fields_of {e : TypeId} {fs : Array Field} {m : Nat} {cs : List Value} {y : DataW H × List MemPlace} (he : P.underlying e = some (.struct fs)) (hone : oneCellFields P fs = true) (hl : cs.length = fs.size) (h : DataW.trod enc P w base spare held m e cs = some y) :
  ∃ m' : Nat, ∀ (j : Nat) (f : Field), fs[j]? = some f → ∃ (u : Value) (y : DataW H × List MemPlace), cs[j]? = some u ∧ DataW.trod enc P w base spare held m' f.type [u] = some y := by
 obtain ⟨ys, n', hn', hy, hlen', hyl, hf'⟩ := DataW.trod_struct he h
 refine ⟨n', fun j f hj => ?_⟩
 obtain ⟨ho, hk⟩ := hone_of hone j f hj
 have hjl : j < fs.size := (Array.getElem?_eq_some_iff.1 hj).1
 have h1 := hf' j f hj
 rw [ho, hk] at h1
 have hone' : (cs.drop j).take 1 = [cs[j]'(by omega)] := by
  rw [List.drop_eq_getElem_cons oM]
  rfl
 rw [hone'] at h1
 have hys : ys[j]? = some (ys[j]'(by omega)) := List.getElem?_eq_getElem oM
 exact ⟨_, _, List.getElem?_eq_getElem oM, h1.trans hys⟩
end
end Go.Proofs.YtnnmenmifphadaaGreatDoor
