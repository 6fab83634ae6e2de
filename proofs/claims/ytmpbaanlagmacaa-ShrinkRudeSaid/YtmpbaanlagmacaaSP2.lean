/- Plain law of layer 60: the greedy search of a subsequence, the family of predicates, and what their minimal schedules are. No program is named here. -/
import Derived.Test.YtmpbaanlagmacaaSP
namespace Go.Proofs.Ytmpbaanlagmacaa

/-- The greedy search of 'want' from place 'a' on. -/
def grd (want : List Pk) : Nat → List Pk → Nat
  | a, [] => a
  | a, p :: l => if want[a]? = some p then grd want (a + 1) l else grd want a l
theorem grd_le (want : List Pk) : ∀ (l : List Pk) (a : Nat), a ≤ want.length → grd want a l ≤ want.length
  | [], a, h => h
  | p :: l, a, h => by
    unfold grd
    split
    · rename_i h2
      exact grd_le want l (a + 1) (List.getElem?_eq_some_iff.1 h2).1
    · exact grd_le want l a h
theorem grd_snoc (want : List Pk) (p : Pk) : ∀ (l : List Pk) (a : Nat), grd want a (l ++ [p]) = if want[grd want a l]? = some p then grd want a l + 1 else grd want a l
  | [], a => rfl
  | q :: l, a => by
    simp only [List.cons_append, grd]
    split
    · exact grd_snoc want p l (a + 1)
    · exact grd_snoc want p l a
theorem grd_iff (want : List Pk) : ∀ (l : List Pk) (a : Nat), a ≤ want.length → (grd want a l = want.length ↔ (want.drop a).Sublist l)
  | [], a, h => by
    simp only [grd, List.sublist_nil, List.drop_eq_nil_iff]
    omega
  | p :: l, a, h => by
    unfold grd
    split
    · rename_i h2
      obtain ⟨h3, h4⟩ := List.getElem?_eq_some_iff.1 h2
      rw [grd_iff want l (a + 1) h3, List.drop_eq_getElem_cons h3, h4, List.cons_sublist_cons]
    · rename_i h2
      rw [grd_iff want l a h]
      constructor
      · exact fun h5 => h5.trans (List.sublist_cons_self p l)
      · intro h5
        rcases List.sublist_cons_iff.1 h5 with h6 | ⟨r, h6, _⟩
        · exact h6
        · exfalso
          apply h2
          have : (want.drop a)[0]? = some p := by rw [h6]; rfl
          rwa [List.getElem?_drop, Nat.add_zero] at this
theorem grd_all {want l : List Pk} (h : want.Sublist l) : grd want 0 l = want.length := (grd_iff want l 0 (Nat.zero_le _)).2 h

def steps (l : List Pk) : Nat := l.countP fun p => p.1 == 0
def ends (l : List Pk) : Nat := l.countP fun p => p.1 == 1
/-- The sum of the choices, each modulo 7, as Go's '%' has it. -/
def sum7 (l : List Pk) : Int := (l.map fun p => p.2.2.tmod 7).sum
/-- The reference's family of predicates. -/
def badP (kind n : Int) (want l : List Pk) : Bool :=
  if kind % 5 = 0 then grd want 0 l == want.length
  else if kind % 5 = 1 then decide (n % 7 ≤ (l.length : Int))
  else if kind % 5 = 2 then steps l == ends l && decide (0 < steps l)
  else if kind % 5 = 3 then ((sum7 l).tmod 7 + 7).tmod 7 == n % 7
  else true

theorem badP_sub (n : Int) (want l : List Pk) : badP 0 n want l = true ↔ want.Sublist l := by
  have := grd_iff want l 0 (Nat.zero_le _)
  rw [List.drop_zero] at this
  simp [badP, this]
theorem badP_one (n : Int) (want l : List Pk) : badP 1 n want l = true ↔ n % 7 ≤ (l.length : Int) := by simp [badP]
theorem mono_sub (n : Int) (want : List Pk) : Mono (badP 0 n want) := fun a b h1 h2 => by
  rw [badP_sub] at h2 ⊢
  exact h2.trans h1
theorem mono_one (n : Int) (want : List Pk) : Mono (badP 1 n want) := fun a b h1 h2 => by
  rw [badP_one] at h2 ⊢
  have := h1.length_le
  omega

/-- A subsequence that is shorter is still one behind the removal of some pick. -/
theorem sub_shorter : ∀ {want s : List Pk}, want.Sublist s → want.length < s.length → ∃ j, j < s.length ∧ want.Sublist (s.eraseIdx j)
  | _, _, .slnil, h => by simp at h
  | _, _, .cons (l₂ := l) a h1, _ => ⟨0, by simp, by simpa using h1⟩
  | _, _, .cons_cons (l₁ := w) (l₂ := l) a h1, h => by
    obtain ⟨j, h2, h3⟩ := sub_shorter h1 (by simpa using h)
    exact ⟨j + 1, by simpa using h2, by simpa using h3⟩
theorem least_words (n : Int) (want l : List Pk) (h : want.Sublist l) : (leastP (badP 0 n want) l).1 = want := by
  have hp : badP 0 n want l = true := (badP_sub n want l).2 h
  have hm := (minimalP_iff _ _).1 (leastP_minimal (badP 0 n want) l hp)
  generalize (leastP (badP 0 n want) l).1 = s at hm
  have hs := (badP_sub n want s).1 hm.1
  have hle := hs.length_le
  rcases Nat.lt_or_ge want.length s.length with hlt | hge
  · obtain ⟨j, h2, h3⟩ := sub_shorter hs hlt
    have := hm.2 j h2
    rw [(badP_sub n want _).2 h3] at this
    cases this
  · exact (hs.eq_of_length (by omega)).symm
theorem least_one (n : Int) (want l : List Pk) (h : badP 1 n want l = true) : ((leastP (badP 1 n want) l).1.length : Int) = n % 7 := by
  have hm := (minimalP_iff _ _).1 (leastP_minimal (badP 1 n want) l h)
  generalize (leastP (badP 1 n want) l).1 = s at hm
  have hs := (badP_one n want s).1 hm.1
  have h0 : 0 ≤ n % 7 := Int.emod_nonneg _ (by omega)
  rcases Nat.eq_zero_or_pos s.length with hz | hz
  · omega
  · have := hm.2 0 hz
    have h2 : ¬ n % 7 ≤ ((s.eraseIdx 0).length : Int) := fun h3 => by
      rw [(badP_one n want _).2 h3] at this
      cases this
    rw [List.length_eraseIdx_of_lt hz] at h2
    omega
end Go.Proofs.Ytmpbaanlagmacaa
