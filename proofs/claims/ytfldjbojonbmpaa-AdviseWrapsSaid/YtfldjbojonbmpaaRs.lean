/- A cell that holds a slice whose elements have C cells each: the raw cells, element by element. No program. -/
import Derived.Test.YtfldjbojonbmpaaLib
namespace Go.Proofs.Ytfldjbojonbmpaa
open Go.ChangeShapes Go.WideShapes Go.ChangeAt Go.RowKit Go.Deep

section
variable {H : Type} {enc : TypeId × Value → H} {P : Program} {w : World} {base : Nat} {spare : Nat → Bool} {held : Bool}
theorem rd_slice_c {t e : TypeId} {C : Nat} {u : Value} {y : DataW H × List MemPlace} {fuel : Nat} (ht : P.underlying t = some (.slice e))
    (hC : P.cellsOf e = C) (hpos : 0 < C) (hf : DataW.trod enc P w base spare held fuel t [u] = some y) :
    ∃ (A : Option Addr) (n cap : Nat) (xs : List Value), u = .slice A n cap ∧ n ≤ cap ∧ n ≤ maxLen ∧ (A = none → n = 0) ∧ Rd w w.heap.size C A n xs ∧
      ∀ i, i < n → ∃ (m : Nat) (y : DataW H × List MemPlace), DataW.trod enc P w base spare held m e ((xs.drop (i * C)).take C) = some y := by
  rcases open_slice ht hf with ⟨hcs, hx⟩ | ⟨a, n, cap, m, fu, D, Pl, hcs, hb, hl, hm, hmm, hx, hi⟩
  · injection hcs with hcs _
    subst hcs
    exact ⟨none, 0, 0, [], rfl, Nat.zero_le _, Nat.zero_le _, fun _ => rfl, Rd.nil _ _ _ _, fun i hi => absurd hi (Nat.not_lt_zero i)⟩
  · injection hcs with hcs _
    subst hcs
    have hlen : n ≤ m := by rw [hmm]; split <;> omega
    have key : ∀ i, i < n → ∃ cs', cs'.length = C ∧ (∀ j, j < C → w.cell? (a.add (i * C + j)) = cs'[j]?) ∧ ∃ y, DataW.trod enc P w base spare held fu e cs' = some y := by
      intro i hin
      obtain ⟨cs', hc, ht'⟩ := hi i (by omega)
      rw [hC] at hc
      obtain ⟨_, hcl, hat⟩ := World.cells?_some hc
      exact ⟨cs', hcl, fun j hj => by rw [← Go.Deep.add_add]; exact hat j hj, _, ht'⟩
    have each : ∀ q, q < n * C → ∃ u, w.cell? (a.add q) = some u := by
      intro q hq
      have h1 : q / C < n := Nat.div_lt_of_lt_mul (by rw [Nat.mul_comm]; exact hq)
      have h2 : q % C < C := Nat.mod_lt _ hpos
      obtain ⟨cs', hcl, hat, _⟩ := key (q / C) h1
      refine ⟨cs'[q % C]'(by omega), ?_⟩
      rw [← List.getElem?_eq_getElem (by omega), ← hat _ h2, Nat.mul_comm, Nat.div_add_mod]
    let F : Nat → Value := fun q => (w.cell? (a.add q)).getD undef
    have hF : ∀ q, q < n * C → w.cell? (a.add q) = some (F q) := by
      intro q hq
      obtain ⟨u, hu⟩ := each q hq
      show _ = some ((w.cell? (a.add q)).getD undef)
      rw [hu]
      rfl
    refine ⟨some a, n, cap, (List.range (n * C)).map F, rfl, hl, by omega, (fun e => by cases e), ⟨by simp, fun hn => ?_⟩, fun i hin => ?_⟩
    · obtain ⟨b, off, rfl, hb', hcell'⟩ := plain_of_cells (n := n * C) (f := F) hF (Nat.mul_pos hn hpos)
      refine ⟨b, off, rfl, hb', fun j u hu => ?_⟩
      rw [List.getElem?_map, Option.map_eq_some_iff] at hu
      obtain ⟨z, hz1, rfl⟩ := hu
      obtain ⟨hz2, hz3⟩ := List.getElem?_eq_some_iff.1 hz1
      rw [List.length_range] at hz2
      rw [List.getElem_range] at hz3
      subst hz3
      exact hcell' _ hz2
    · obtain ⟨cs', hcl, hat, y, hy⟩ := key i hin
      refine ⟨fu, y, ?_⟩
      rw [← hy]
      congr 1
      apply List.ext_getElem?
      intro j
      rw [List.getElem?_take]
      have hle : (i + 1) * C ≤ n * C := Nat.mul_le_mul_right _ hin
      rw [Nat.succ_mul] at hle
      split
      · rename_i hj
        rw [List.getElem?_drop, List.getElem?_map, List.getElem?_range (by omega), ← hat j hj, hF _ (by omega)]
        rfl
      · rw [List.getElem?_eq_none (by omega)]
end
end Go.Proofs.Ytfldjbojonbmpaa
