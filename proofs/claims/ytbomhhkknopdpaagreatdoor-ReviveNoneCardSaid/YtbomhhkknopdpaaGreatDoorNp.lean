/- The initial words of a layout satisfy all invariants. Plain. -/
import Derived.Test.YtbomhhkknopdpaaGreatDoorMt
import Derived.Test.YtbomhhkknopdpaaGreatDoorMl
namespace Go.Proofs.YtbomhhkknopdpaaGreatDoor
set_option linter.unusedSimpArgs false
set_option linter.unusedVariables false
open Go.RowKit
theorem setV_at (v : Int) (o : List W3) (a : Int) (p : Nat) (hp : p < o.length) : (setV v o a).getD p z3 = if a.toNat = p then ⟨v, (o.getD p z3).r, (o.getD p z3).f⟩ else o.getD p z3 := by
  unfold setV
  by_cases h : a.toNat = p
  · subst h
    rw [if_pos rfl, List.getD_eq_getElem?_getD, List.getElem?_set_self hp]
    rfl
  · rw [if_neg h, List.getD_eq_getElem?_getD, List.getElem?_set_ne h, List.getD_eq_getElem?_getD]
theorem foldV_at (v : Int) (p : Nat) : ∀ (l : List Int) (o : List W3), p < o.length → (l.foldl (setV v) o).getD p z3 = if inL l p = true then ⟨v, (o.getD p z3).r, (o.getD p z3).f⟩ else o.getD p z3
  | [], o, _ => by simp [inL]
  | a :: l, o, hp => by
    rw [List.foldl_cons, foldV_at v p l _ (by rw [setV_len]; exact hp), setV_at v o a p hp]
    unfold inL
    rw [List.any_cons]
    by_cases h : a.toNat = p
    · rw [if_pos h, show (a.toNat == p) = true from beq_iff_eq.2 h, Bool.true_or, if_pos rfl]
      split <;> rfl
    · rw [if_neg h, show (a.toNat == p) = false from beq_eq_false_iff_ne.2 h, Bool.false_or]
theorem rep_at (n p : Nat) : (List.replicate n z3).getD p z3 = z3 := by
  rw [List.getD_eq_getElem?_getD, List.getElem?_replicate]
  split <;> rfl
section
variable {T C B : Int}
theorem first_at (p : Nat) (hp : p < (fromL T C B 7).toNat) : (firstL T C B).getD p z3 = if inL (blocksTo T C B B.toNat) p = true ∨ inL (slotsTo T C B T.toNat) p = true then ⟨2, 0, 0⟩ else if p = 1 then ⟨1, 0, 0⟩ else z3 := by
  have l1 : (first1 T C B).length = (fromL T C B 7).toNat := by unfold first1; rw [setV_len, List.length_replicate]
  have l2 : (first2 T C B).length = (fromL T C B 7).toNat := by unfold first2; rw [foldV_len, l1]
  have a1 : (first1 T C B).getD p z3 = if p = 1 then ⟨1, 0, 0⟩ else z3 := by
    unfold first1
    rw [setV_at _ _ _ _ (by rw [List.length_replicate]; exact hp), rep_at, show Int.toNat 1 = 1 from rfl]
    by_cases h : p = 1
    · rw [if_pos h.symm, if_pos h]; rfl
    · rw [if_neg (fun e => h e.symm), if_neg h]
  have a2 : (first2 T C B).getD p z3 = if inL (slotsTo T C B T.toNat) p = true then ⟨2, 0, 0⟩ else if p = 1 then ⟨1, 0, 0⟩ else z3 := by
    unfold first2
    rw [foldV_at _ _ _ _ (by rw [l1]; exact hp), a1]
    split
    · split <;> rfl
    · rfl
  unfold firstL
  rw [foldV_at _ _ _ _ (by rw [l2]; exact hp), a2]
  by_cases hb : inL (blocksTo T C B B.toNat) p = true
  · have h1 : inL (blocksTo T C B B.toNat) p = true ∨ inL (slotsTo T C B T.toNat) p = true := Or.inl hb
    rw [if_pos hb, if_pos h1]
    split
    · rfl
    · split <;> rfl
  · rw [if_neg hb]
    by_cases hs : inL (slotsTo T C B T.toNat) p = true
    · have h1 : inL (blocksTo T C B B.toNat) p = true ∨ inL (slotsTo T C B T.toNat) p = true := Or.inr hs
      rw [if_pos hs, if_pos h1]
    · have h1 : ¬ (inL (blocksTo T C B B.toNat) p = true ∨ inL (slotsTo T C B T.toNat) p = true) := fun h => h.elim hb hs
      rw [if_neg hs, if_neg h1]
theorem first_f (p : Nat) : ((firstL T C B).getD p z3).f = 0 := by
  by_cases hp : p < (fromL T C B 7).toNat
  · rw [first_at p hp]
    split
    · rfl
    · split <;> rfl
  · rw [List.getD_eq_getElem?_getD, List.getElem?_eq_none (by rw [firstL_len]; omega)]
    rfl
/-- Where the parts lie. -/
theorem froms (hv : Fit T C B) : fromL T C B 1 = 8 ∧ fromL T C B 2 = 8 + 8 * T ∧ fromL T C B 3 = 8 + 16 * T ∧ fromL T C B 3 < fromL T C B 4 ∧ fromL T C B 5 = fromL T C B 4 + 104 * T ∧ fromL T C B 6 = fromL T C B 5 + (if 0 < B then 8 else 0) ∧ fromL T C B 7 = fromL T C B 6 + 32 * B := by
  obtain ⟨f1, f2, f3, f4, f5, f6⟩ := hv
  have e7 : fromL T C B 7 = fromL T C B 6 + 32 * B := rfl
  have e6 : fromL T C B 6 = fromL T C B 5 + (if 0 < B then 8 else 0) := rfl
  have e5 : fromL T C B 5 = fromL T C B 4 + 104 * T := rfl
  have e4 : fromL T C B 4 = fromL T C B 3 + (C + 7) / 8 * 8 := rfl
  have e3 : fromL T C B 3 = fromL T C B 2 + 8 * T := rfl
  have e2 : fromL T C B 2 = fromL T C B 1 + 8 * T := rfl
  have e1 : fromL T C B 1 = 0 + 8 := rfl
  refine ⟨by omega, by omega, by omega, by omega, e5, e6, e7⟩
theorem slots_in {a : Int} (h : a ∈ slotsTo T C B T.toNat) : fromL T C B 4 ≤ a ∧ a < fromL T C B 4 + 104 * T := by
  unfold slotsTo at h
  obtain ⟨i, hi, rfl⟩ := List.mem_map.1 h
  have hi' := List.mem_range.1 hi
  unfold atL
  have hm : ((i : Nat) : Int) < manyL T C B 4 := by show ((i : Nat) : Int) < T; omega
  rw [if_pos ⟨by omega, hm⟩, show sizeL 4 = 104 from rfl]
  omega
theorem blocks_in {a : Int} (h : a ∈ blocksTo T C B B.toNat) : fromL T C B 6 ≤ a ∧ a < fromL T C B 6 + 32 * B := by
  unfold blocksTo at h
  obtain ⟨i, hi, rfl⟩ := List.mem_map.1 h
  have hi' := List.mem_range.1 hi
  unfold atL
  have hm : ((i : Nat) : Int) < manyL T C B 6 := by show ((i : Nat) : Int) < B; omega
  rw [if_pos ⟨by omega, hm⟩, show sizeL 6 = 32 from rfl]
  omega
theorem first_low (hv : Fit T C B) (p : Nat) (hp : (p : Int) < fromL T C B 4 ∨ 0 < B ∧ (p : Int) = fromL T C B 5) : (firstL T C B).getD p z3 = if p = 1 then ⟨1, 0, 0⟩ else z3 := by
  obtain ⟨e1, e2, e3, e4, e5, e6, e7⟩ := froms hv
  obtain ⟨f1, f2, f3, f4, f5, f6⟩ := hv
  have hlen : p < (fromL T C B 7).toNat := by
    split at e6 <;> omega
  rw [first_at p hlen, if_neg]
  rintro (h | h)
  · obtain ⟨a, ha, hap⟩ := inL_mem h
    have := blocks_in ha
    split at e6 <;> omega
  · obtain ⟨a, ha, hap⟩ := inL_mem h
    have := slots_in ha
    split at e6 <;> omega
theorem first_status (hv : Fit T C B) {a : Int} (h : a ∈ statusesL T C B) : (firstL T C B).getD a.toNat z3 = ⟨2, 0, 0⟩ := by
  obtain ⟨e1, e2, e3, e4, e5, e6, e7⟩ := froms hv
  obtain ⟨f1, f2, f3, f4, f5, f6⟩ := hv
  unfold statusesL at h
  rw [List.mem_append] at h
  have hlen : a.toNat < (fromL T C B 7).toNat := by
    rcases h with h | h
    · have := slots_in h
      split at e6 <;> omega
    · have := blocks_in h
      split at e6 <;> omega
  rw [first_at _ hlen, if_pos]
  rcases h with h | h
  · exact .inr (mem_inL h)
  · exact .inl (mem_inL h)
theorem first_own (hv : Fit T C B) {a : Int} (h : a ∈ ownLs T C B) : (firstL T C B).getD a.toNat z3 = z3 := by
  obtain ⟨e1, e2, e3, e4, e5, e6, e7⟩ := froms hv
  have hv' := hv
  obtain ⟨f1, f2, f3, f4, f5, f6⟩ := hv
  unfold ownLs ownTo at h
  obtain ⟨i, hi, hia⟩ := List.mem_flatMap.1 h
  have hi' := List.mem_range.1 hi
  have hm : ((i : Nat) : Int) < manyL T C B 1 := by show ((i : Nat) : Int) < T; omega
  have ha : 8 ≤ a ∧ a < fromL T C B 3 := by
    simp only [List.mem_cons, List.not_mem_nil, or_false] at hia
    unfold atL at hia
    rw [if_pos ⟨by omega, hm⟩, show sizeL 1 = 8 from rfl] at hia
    rw [if_pos ⟨by omega, hm⟩] at hia
    omega
  rw [first_low hv' _ (.inl (by omega)), if_neg (by omega)]
theorem first_clean (hv : Fit T C B) : cleanL T C B (firstL T C B) = true := by
  have h1 : anyD1 (firstL T C B) (mayLs T C B) = false := by
    unfold anyD1
    rw [List.any_eq_false]
    intro a h
    unfold dirty1
    rw [first_f]
    decide
  have h2 : anyD2 (firstL T C B) (statusesL T C B) = false := by
    unfold anyD2
    rw [List.any_eq_false]
    intro a h
    rw [first_status hv h]
    decide
  have h3 : anyD3 (firstL T C B) (ownLs T C B) = false := by
    unfold anyD3
    rw [List.any_eq_false]
    intro a h
    rw [first_own hv h]
    decide
  unfold cleanL
  rw [h1, h2, h3]
  rfl
theorem first_recs (hv : Fit T C B) : recsL T C B (firstL T C B) T.toNat = true := by
  obtain ⟨e1, e2, e3, e4, e5, e6, e7⟩ := froms hv
  have hv' := hv
  obtain ⟨f1, f2, f3, f4, f5, f6⟩ := hv
  unfold recsL
  rw [List.all_eq_true]
  intro i hi
  have hi' := List.mem_range.1 hi
  have hm : ((i : Nat) : Int) + 1 - 1 < manyL T C B 2 := by show ((i : Nat) : Int) + 1 - 1 < T; omega
  have hr : atL T C B 2 ((i : Int) + 1 - 1) 0 = fromL T C B 2 + (i : Int) * 8 := by
    unfold atL
    rw [if_pos ⟨by omega, hm⟩, show sizeL 2 = 8 from rfl]
    omega
  unfold askedL
  rw [hr]
  have hz : ∀ j : Nat, j < 3 → logicalL T C B (firstL T C B) ((fromL T C B 2 + (i : Int) * 8).toNat + j) = z3 := fun j hj => by
    rw [logical_plain _ _ _ _ _ (first_f _), first_low hv' _ (.inl (by omega)), if_neg (by omega)]
  have h0 := hz 0 (by decide)
  have h1 := hz 1 (by decide)
  have h2 := hz 2 (by decide)
  rw [Nat.add_zero] at h0
  simp only [h0, h1, h2]
  decide
theorem first_swaps (hv : Fit T C B) : swapsL T C B (firstL T C B) = true := by
  have hd : decidedW ⟨2, 0, 0⟩ = true := by decide
  unfold swapsL decSlots decBlocks
  rw [Bool.and_eq_true]
  constructor
  · rw [List.all_eq_true]
    intro i hi
    have h : atL T C B 4 (i : Nat) 0 ∈ statusesL T C B := List.mem_append_left _ (List.mem_map.2 ⟨i, hi, rfl⟩)
    rw [first_status hv h, hd]
  · rw [List.all_eq_true]
    intro i hi
    have h : atL T C B 6 (i : Nat) 0 ∈ statusesL T C B := List.mem_append_right _ (List.mem_map.2 ⟨i, hi, rfl⟩)
    rw [first_status hv h, hd]
theorem first_bits (hv : Fit T C B) (hB : B ≤ 8) : bitsL T C B (firstL T C B) = true := by
  obtain ⟨e1, e2, e3, e4, e5, e6, e7⟩ := froms hv
  have hv' := hv
  obtain ⟨f1, f2, f3, f4, f5, f6⟩ := hv
  unfold bitsL
  by_cases h0 : 0 < B
  · rw [first_low hv' _ (.inr ⟨h0, by omega⟩), if_neg (by omega)]
    obtain ⟨k, hk⟩ : ∃ k : Nat, B.toNat = k := ⟨_, rfl⟩
    rw [hk]
    have hk8 : k ≤ 8 := by omega
    match k, hk8 with
    | 0, _ => decide
    | 1, _ => decide
    | 2, _ => decide
    | 3, _ => decide
    | 4, _ => decide
    | 5, _ => decide
    | 6, _ => decide
    | 7, _ => decide
    | 8, _ => decide
  · have h : B.toNat = 0 := by omega
    rw [h]
    rfl
theorem first_clocks (hv : Fit T C B) : clocksL (firstL T C B) = true := by
  obtain ⟨e1, e2, e3, e4, e5, e6, e7⟩ := froms hv
  have hv' := hv
  obtain ⟨f1, f2, f3, f4, f5, f6⟩ := hv
  unfold clocksL
  rw [first_low hv' 0 (.inl (by omega)), first_low hv' 1 (.inl (by omega))]
  decide
/-- The initial words of a layout of at most eight blocks break no rule. -/
theorem first_check (hv : Fit T C B) (hB : B ≤ 8) : checkL T C B (firstL T C B) = [] := by
  unfold checkL
  rw [first_clean hv, first_recs hv, first_swaps hv, first_bits hv hB, first_clocks hv]
  rfl
end
end Go.Proofs.YtbomhhkknopdpaaGreatDoor
