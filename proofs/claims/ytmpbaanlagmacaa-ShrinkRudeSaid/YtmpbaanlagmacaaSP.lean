/- Plain law of layer 60: schedules, predicates, the pass that removes single picks. No program is named here. -/
namespace Go.Proofs.Ytmpbaanlagmacaa

abbrev Pk := Int × Int × Int

section
variable {α : Type}
/-- A pass from place i on (n: how many places are left): each pick is struck if the rest still fails. -/
def passP (P : List α → Bool) : Nat → List α → Nat → List α
  | 0, l, _ => l
  | n + 1, l, i => if P (l.eraseIdx i) then passP P n (l.eraseIdx i) i else passP P n l (i + 1)
/-- Passes until one removes nothing; the second: how often the predicate was asked. -/
def shrP (P : List α → Bool) : Nat → List α → List α × Nat
  | 0, l => (l, 0)
  | n + 1, l => if (passP P l.length l 0).length < l.length then ((shrP P n (passP P l.length l 0)).1, l.length + (shrP P n (passP P l.length l 0)).2) else (passP P l.length l 0, l.length)
/-- The shrunk schedule and the number of evaluations. -/
def leastP (P : List α → Bool) (l : List α) : List α × Nat := if P l then ((shrP P (l.length + 1) l).1, 1 + (shrP P (l.length + 1) l).2) else (l, 1)
def minimalP (P : List α → Bool) (l : List α) : Bool := P l && (List.range l.length).all fun i => !P (l.eraseIdx i)

theorem passP_sub (P : List α → Bool) : ∀ (n : Nat) (l : List α) (i : Nat), (passP P n l i).Sublist l
  | 0, l, i => List.Sublist.refl _
  | n + 1, l, i => by
    unfold passP
    split
    · exact (passP_sub P n _ i).trans (List.eraseIdx_sublist l i)
    · exact passP_sub P n l (i + 1)
theorem passP_len (P : List α → Bool) (n : Nat) (l : List α) (i : Nat) : (passP P n l i).length ≤ l.length := (passP_sub P n l i).length_le
theorem passP_true (P : List α → Bool) : ∀ (n : Nat) (l : List α) (i : Nat), P l = true → P (passP P n l i) = true
  | 0, l, i, h => h
  | n + 1, l, i, h => by
    unfold passP
    split
    · rename_i h2
      exact passP_true P n _ i h2
    · exact passP_true P n l (i + 1) h
/-- A pass that removes nothing: no single removal fails. -/
theorem passP_same (P : List α → Bool) : ∀ (n : Nat) (l : List α) (i : Nat), n + i = l.length → ¬ (passP P n l i).length < l.length → passP P n l i = l ∧ ∀ j, i ≤ j → j < l.length → P (l.eraseIdx j) = false
  | 0, l, i, hn, _ => ⟨rfl, fun j h1 h2 => by omega⟩
  | n + 1, l, i, hn, h => by
    unfold passP at h ⊢
    split at h
    · exfalso
      have := passP_len P n (l.eraseIdx i) i
      rw [List.length_eraseIdx] at this
      split at this <;> omega
    · rename_i h2
      rw [if_neg h2]
      obtain ⟨h3, h4⟩ := passP_same P n l (i + 1) (by omega) h
      refine ⟨h3, fun j h5 h6 => ?_⟩
      by_cases hj : j = i
      · subst hj
        simpa using h2
      · exact h4 j (by omega) h6
theorem shrP_sub (P : List α → Bool) : ∀ (n : Nat) (l : List α), (shrP P n l).1.Sublist l
  | 0, l => List.Sublist.refl _
  | n + 1, l => by
    unfold shrP
    split
    · exact (shrP_sub P n _).trans (passP_sub P _ _ _)
    · exact passP_sub P _ _ _
theorem shrP_true (P : List α → Bool) : ∀ (n : Nat) (l : List α), P l = true → P (shrP P n l).1 = true
  | 0, l, h => h
  | n + 1, l, h => by
    unfold shrP
    split
    · exact shrP_true P n _ (passP_true P _ _ _ h)
    · exact passP_true P _ _ _ h
theorem shrP_min (P : List α → Bool) : ∀ (n : Nat) (l : List α), l.length < n → ∀ j, j < (shrP P n l).1.length → P ((shrP P n l).1.eraseIdx j) = false
  | 0, l, h => by omega
  | n + 1, l, h => by
    unfold shrP
    split
    · rename_i h2
      exact shrP_min P n _ (by omega)
    · rename_i h2
      obtain ⟨h3, h4⟩ := passP_same P l.length l 0 (by omega) h2
      rw [h3]
      exact fun j hj => h4 j (Nat.zero_le _) hj
/-- Where no single removal fails, a pass leaves all as it is. -/
theorem passP_stay (P : List α → Bool) : ∀ (n : Nat) (l : List α) (i : Nat), n + i = l.length → (∀ j, j < l.length → P (l.eraseIdx j) = false) → passP P n l i = l
  | 0, l, i, _, _ => rfl
  | n + 1, l, i, hn, h => by
    unfold passP
    rw [if_neg (by rw [h i (by omega)]; simp)]
    exact passP_stay P n l (i + 1) (by omega) h
theorem shrP_stay (P : List α → Bool) (n : Nat) (l : List α) (h : ∀ j, j < l.length → P (l.eraseIdx j) = false) : shrP P (n + 1) l = (l, l.length) := by
  unfold shrP
  rw [passP_stay P l.length l 0 (by omega) h, if_neg (by omega)]
theorem minimalP_iff (P : List α → Bool) (l : List α) : minimalP P l = true ↔ P l = true ∧ ∀ j, j < l.length → P (l.eraseIdx j) = false := by
  simp [minimalP, List.all_eq_true]
theorem leastP_false (P : List α → Bool) (l : List α) (h : P l = false) : leastP P l = (l, 1) := by
  unfold leastP
  rw [h]
  rfl
theorem leastP_true (P : List α → Bool) (l : List α) (h : P l = true) : leastP P l = ((shrP P (l.length + 1) l).1, 1 + (shrP P (l.length + 1) l).2) := if_pos h
theorem leastP_minimal (P : List α → Bool) (l : List α) (h : P l = true) : minimalP P (leastP P l).1 = true := by
  rw [leastP_true P l h, minimalP_iff]
  exact ⟨shrP_true P _ l h, shrP_min P _ l (by omega)⟩
theorem leastP_self (P : List α → Bool) (l : List α) (h : P l = true) : (leastP P (leastP P l).1).1 = (leastP P l).1 := by
  have hm := (minimalP_iff P _).1 (leastP_minimal P l h)
  rw [leastP_true P _ hm.1, shrP_stay P _ _ hm.2]
theorem leastP_sub (P : List α → Bool) (l : List α) : (leastP P l).1.Sublist l := by
  unfold leastP
  split
  · exact shrP_sub P _ l
  · exact List.Sublist.refl _
theorem leastP_len (P : List α → Bool) (l : List α) : (leastP P l).1.length ≤ l.length := (leastP_sub P l).length_le

/-! ### monotone predicates: whatever contains a failing schedule fails -/
def Mono (P : List α → Bool) : Prop := ∀ a b : List α, a.Sublist b → P a = true → P b = true
/-- Behind the first pass of a monotone predicate no single removal fails. -/
theorem passP_mono (P : List α → Bool) (hm : Mono P) : ∀ (n : Nat) (l : List α) (i : Nat), n + i = l.length → (∀ j, j < i → P (l.eraseIdx j) = false) → ∀ j, j < (passP P n l i).length → P ((passP P n l i).eraseIdx j) = false
  | 0, l, i, hn, h => fun j hj => h j (by simp only [passP] at hj; omega)
  | n + 1, l, i, hn, h => by
    unfold passP
    split
    · refine passP_mono P hm n (l.eraseIdx i) i (by rw [List.length_eraseIdx_of_lt (by omega)]; omega) fun j hj => ?_
      have h1 := h j hj
      cases hc : P ((l.eraseIdx i).eraseIdx j) with
      | false => rfl
      | true =>
        have hs : ((l.eraseIdx i).eraseIdx j).Sublist (l.eraseIdx j) := by
          have e : (l.eraseIdx i).eraseIdx j = (l.eraseIdx j).eraseIdx (i - 1) := by
            apply List.ext_getElem?
            intro k
            simp only [List.getElem?_eraseIdx]
            by_cases c1 : k < j <;> by_cases c2 : k < i - 1 <;> by_cases c3 : k < i <;> by_cases c4 : k + 1 < i <;> by_cases c5 : k + 1 < j <;> simp [c1, c2, c3, c4, c5] <;> omega
          rw [e]
          exact List.eraseIdx_sublist _ _
        rw [hm _ _ hs hc] at h1
        cases h1
    · rename_i h2
      refine passP_mono P hm n l (i + 1) (by omega) fun j hj => ?_
      by_cases hji : j = i
      · subst hji
        simpa using h2
      · exact h j (by omega)
/-- A monotone predicate: one pass, and one more if it removed something. -/
theorem leastP_mono (P : List α → Bool) (hm : Mono P) (l : List α) (h : P l = true) :
    (leastP P l).2 = 1 + l.length + (if (leastP P l).1.length < l.length then (leastP P l).1.length else 0) ∧ ∀ j, j < (leastP P l).1.length → P ((leastP P l).1.eraseIdx j) = false := by
  refine ⟨?_, ((minimalP_iff P _).1 (leastP_minimal P l h)).2⟩
  rw [leastP_true P l h]
  have hp := passP_mono P hm l.length l 0 (by omega) (fun j hj => absurd hj (Nat.not_lt_zero j))
  have e : shrP P (l.length + 1) l = if (passP P l.length l 0).length < l.length then (passP P l.length l 0, l.length + (passP P l.length l 0).length) else (passP P l.length l 0, l.length) := by
    rw [shrP]
    split
    · rename_i hlt
      obtain ⟨m, hmm⟩ : ∃ m, l.length = m + 1 := ⟨l.length - 1, by omega⟩
      rw [hmm, ← hmm, show shrP P l.length (passP P l.length l 0) = shrP P (m + 1) (passP P l.length l 0) by rw [hmm], shrP_stay P m _ hp]
    · rfl
  rw [e]
  split
  · simp only
    omega
  · rfl
end
end Go.Proofs.Ytmpbaanlagmacaa
