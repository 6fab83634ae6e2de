/- Recovering what was recovered changes nothing. Plain. -/
import Derived.Test.YtbomhhkknopdpaaGreatDoorM3
import Derived.Test.YtbomhhkknopdpaaGreatDoorR14
namespace Go.Proofs.YtbomhhkknopdpaaGreatDoor
set_option linter.unusedSimpArgs false
set_option linter.unusedVariables false
open Go.RowKit
theorem fold_cond (c : Nat → Bool) (g : Nat → W3) (p : Nat) : ∀ (l : List Int) (o : List W3),
    (l.foldl (fun o a => if c a.toNat = true then o.set a.toNat (g a.toNat) else o) o).getD p z3 = if (l.any (fun a => a.toNat == p) && c p) = true ∧ p < o.length then g p else o.getD p z3
  | [], o => by simp
  | a :: l, o => by
    rw [List.foldl_cons, fold_cond c g p l]
    have hlen : (if c a.toNat = true then o.set a.toNat (g a.toNat) else o).length = o.length := by split <;> simp
    rw [hlen]
    by_cases h : (l.any (fun a => a.toNat == p) && c p) = true ∧ p < o.length
    · rw [if_pos h, if_pos ⟨by rw [List.any_cons]; simp at h ⊢; exact ⟨Or.inr h.1.1, h.1.2⟩, h.2⟩]
    · rw [if_neg h]
      by_cases hp : a.toNat = p
      · subst hp
        by_cases hc : c a.toNat = true
        · by_cases hl : a.toNat < o.length
          · rw [if_pos hc, if_pos ⟨by simp [List.any_cons, hc], hl⟩]
            simp [List.getD_eq_getElem?_getD, List.getElem?_set_self hl]
          · rw [if_pos hc, if_neg (fun h => hl h.2)]
            rw [List.getD_eq_getElem?_getD, List.getD_eq_getElem?_getD, List.getElem?_eq_none (by simp; omega), List.getElem?_eq_none (by omega)]
        · rw [if_neg hc, if_neg (fun h => by simp [hc] at h)]
      · have e : ((a :: l).any (fun a => a.toNat == p) && c p) = (l.any (fun a => a.toNat == p) && c p) := by rw [List.any_cons, show (a.toNat == p) = false from beq_eq_false_iff_ne.2 hp, Bool.false_or]
        rw [e, if_neg h]
        split
        · simp only [List.getD_eq_getElem?_getD]
          rw [List.getElem?_set_ne hp]
        · rfl
def inL (l : List Int) (p : Nat) : Bool := l.any (fun a => a.toNat == p)
theorem redo1_at (T C B : Int) (ws : List W3) (p : Nat) (hp : p < ws.length) : (redo1 T C B ws).getD p z3 = if inL (mayLs T C B) p = true then logicalL T C B ws p else ws.getD p z3 := by
  have h := fold_cond (fun _ => true) (logicalL T C B ws) p (mayLs T C B) ws
  simp only [Bool.and_true, if_true, hp, and_true] at h
  exact h
theorem redo1_len (T C B : Int) (ws : List W3) : (redo1 T C B ws).length = ws.length := by
  have h : ∀ (l : List Int) (o : List W3), (l.foldl (pass1 T C B ws) o).length = o.length := by
    intro l
    induction l with
    | nil => exact fun o => rfl
    | cons a l ih => intro o; rw [List.foldl_cons, ih]; simp [pass1]
  exact h _ _
theorem redo2_len (T C B : Int) (ws : List W3) : (redo2 T C B ws).length = ws.length := by
  have h : ∀ (l : List Int) (o : List W3), (l.foldl (pass2 ws) o).length = o.length := by
    intro l
    induction l with
    | nil => exact fun o => rfl
    | cons a l ih => intro o; rw [List.foldl_cons, ih]; unfold pass2; split <;> simp
  exact (h _ _).trans (redo1_len _ _ _ _)
theorem redo2_at (T C B : Int) (ws : List W3) (p : Nat) (hp : p < ws.length) : (redo2 T C B ws).getD p z3 = if (inL (statusesL T C B) p && undecidedW (ws.getD p z3)) = true then failedW (ws.getD p z3) else (redo1 T C B ws).getD p z3 := by
  have h := fold_cond (fun p => undecidedW (ws.getD p z3)) (fun p => failedW (ws.getD p z3)) p (statusesL T C B) (redo1 T C B ws)
  rw [redo1_len] at h
  simp only [hp, and_true] at h
  exact h
theorem redoL_at (T C B : Int) (ws : List W3) (p : Nat) (hp : p < ws.length) : (redoL T C B ws).getD p z3 = if inL (ownLs T C B) p = true then z3 else (redo2 T C B ws).getD p z3 := by
  have h := fold_cond (fun _ => true) (fun _ => z3) p (ownLs T C B) (redo2 T C B ws)
  rw [redo2_len] at h
  simp only [Bool.and_true, if_true, hp, and_true] at h
  exact h
/-- The three kinds of location lie apart. -/
def apart (T C B : Int) : Prop := (∀ a ∈ statusesL T C B, inL (mayLs T C B) a.toNat = false ∧ inL (ownLs T C B) a.toNat = false) ∧ ∀ a ∈ mayLs T C B, inL (ownLs T C B) a.toNat = false
set_option maxRecDepth 100000 in
theorem apart382 : apart 3 8 2 := by
  have h : ((statusesL 3 8 2).all (fun a => !inL (mayLs 3 8 2) a.toNat && !inL (ownLs 3 8 2) a.toNat) && (mayLs 3 8 2).all (fun a => !inL (ownLs 3 8 2) a.toNat)) = true := by decide +kernel
  simp only [Bool.and_eq_true, List.all_eq_true, Bool.not_eq_true'] at h
  exact h
theorem inL_mem {l : List Int} {p : Nat} (h : inL l p = true) : ∃ a ∈ l, a.toNat = p := by
  unfold inL at h
  obtain ⟨a, ha, e⟩ := List.any_eq_true.1 h
  exact ⟨a, ha, by simpa using e⟩
theorem mem_inL {l : List Int} {a : Int} (h : a ∈ l) : inL l a.toNat = true := List.any_eq_true.2 ⟨a, h, by simp⟩
theorem logicalL_f (T C B : Int) (ws : List W3) (p : Nat) : (logicalL T C B ws p).f = 0 := by
  unfold logicalL
  simp only []
  split
  · rfl
  · split
    · rfl
    · split
      · split <;> rfl
      · rfl
theorem logical_plain (T C B : Int) (ws : List W3) (p : Nat) (h : (ws.getD p z3).f = 0) : logicalL T C B ws p = ws.getD p z3 := by
  have hw : (whoL (ws.getD p z3).f).1 = 0 := by rw [h]; rfl
  have e : logicalL T C B ws p = plainW (ws.getD p z3) := by
    unfold logicalL
    simp only [hw, if_true]
  rw [e]
  unfold plainW
  rw [← h]
theorem failed_done (x : W3) : undecidedW (failedW x) = false := rfl
theorem ext3 {a b : List W3} (hl : a.length = b.length) (h : ∀ p, p < a.length → a.getD p z3 = b.getD p z3) : a = b := by
  apply List.ext_getElem hl
  intro i h1 h2
  have := h i h1
  rw [List.getD_eq_getElem?_getD, List.getD_eq_getElem?_getD, List.getElem?_eq_getElem h1, List.getElem?_eq_getElem h2] at this
  exact this
section
variable {T C B : Int} (ha : apart T C B) (ws : List W3)
include ha
theorem redo_status {a : Int} (h : a ∈ statusesL T C B) (hp : a.toNat < ws.length) : (redoL T C B ws).getD a.toNat z3 = if undecidedW (ws.getD a.toNat z3) = true then failedW (ws.getD a.toNat z3) else ws.getD a.toNat z3 := by
  obtain ⟨h1, h2⟩ := ha.1 a h
  rw [redoL_at _ _ _ _ _ hp, redo2_at _ _ _ _ _ hp, redo1_at _ _ _ _ _ hp, h1, h2, mem_inL h]
  simp
theorem redo_may {a : Int} (h : a ∈ mayLs T C B) (hp : a.toNat < ws.length) : (redoL T C B ws).getD a.toNat z3 = logicalL T C B ws a.toNat := by
  have h2 := ha.2 a h
  have h3 : inL (statusesL T C B) a.toNat = false := by
    cases hs : inL (statusesL T C B) a.toNat with
    | false => rfl
    | true =>
      obtain ⟨b, hb, e⟩ := inL_mem hs
      have := (ha.1 b hb).1
      rw [e, mem_inL h] at this
      cases this
  rw [redoL_at _ _ _ _ _ hp, redo2_at _ _ _ _ _ hp, redo1_at _ _ _ _ _ hp, h2, h3, mem_inL h]
  simp
omit ha in
theorem redo_own {a : Int} (h : a ∈ ownLs T C B) (hp : a.toNat < ws.length) : (redoL T C B ws).getD a.toNat z3 = z3 := by
  rw [redoL_at _ _ _ _ _ hp, mem_inL h]
  rfl
theorem redo_twice : redoL T C B (redoL T C B ws) = redoL T C B ws := by
  refine ext3 (redoL_len _ _ _ _) (fun p hp => ?_)
  rw [redoL_len, redoL_len] at hp
  have hp2 : p < (redoL T C B ws).length := by rw [redoL_len]; exact hp
  by_cases ho : inL (ownLs T C B) p = true
  · obtain ⟨a, h, rfl⟩ := inL_mem ho
    rw [redo_own _ h hp2, redo_own _ h hp]
  · by_cases hs : inL (statusesL T C B) p = true
    · obtain ⟨a, h, rfl⟩ := inL_mem hs
      rw [redo_status ha _ h hp2, redo_status ha _ h hp]
      cases hu : undecidedW (ws.getD a.toNat z3) with
      | true => simp only [if_true, failed_done, Bool.false_eq_true, if_false]
      | false => simp only [hu, Bool.false_eq_true, if_false]
    · by_cases hm : inL (mayLs T C B) p = true
      · obtain ⟨a, h, rfl⟩ := inL_mem hm
        rw [redo_may ha _ h hp2]
        exact logical_plain _ _ _ _ _ (by rw [redo_may ha _ h hp]; exact logicalL_f _ _ _ _ _)
      · rw [redoL_at _ _ _ _ _ hp2, redo2_at _ _ _ _ _ hp2, redo1_at _ _ _ _ _ hp2]
        simp only [Bool.not_eq_true] at ho hs hm
        rw [ho, hs, hm]
        simp
theorem redo_clean (hin : ∀ a, a ∈ mayLs T C B ∨ a ∈ statusesL T C B ∨ a ∈ ownLs T C B → a.toNat < ws.length) : cleanL T C B (redoL T C B ws) = true := by
  have h1 : anyD1 (redoL T C B ws) (mayLs T C B) = false := by
    unfold anyD1
    rw [List.any_eq_false]
    intro a h
    rw [redo_may ha _ h (hin a (.inl h))]
    unfold dirty1
    rw [logicalL_f]
    decide
  have h2 : anyD2 (redoL T C B ws) (statusesL T C B) = false := by
    unfold anyD2
    rw [List.any_eq_false]
    intro a h
    rw [redo_status ha _ h (hin a (.inr (.inl h)))]
    unfold dirty2
    cases hu : undecidedW (ws.getD a.toNat z3) with
    | true => simp only [if_true, failed_done, Bool.false_eq_true, not_false_eq_true]
    | false => simp only [hu, Bool.false_eq_true, if_false, not_false_eq_true]
  have h3 : anyD3 (redoL T C B ws) (ownLs T C B) = false := by
    unfold anyD3
    rw [List.any_eq_false]
    intro a h
    rw [redo_own _ h (hin a (.inr (.inr h)))]
    decide
  unfold cleanL
  rw [h1, h2, h3]
  rfl
end
set_option maxRecDepth 100000 in
theorem in382 : ∀ a, a ∈ mayLs 3 8 2 ∨ a ∈ statusesL 3 8 2 ∨ a ∈ ownLs 3 8 2 → a.toNat < 448 := by
  have h : ((mayLs 3 8 2).all (fun a => decide (a.toNat < 448)) && (statusesL 3 8 2).all (fun a => decide (a.toNat < 448)) && (ownLs 3 8 2).all (fun a => decide (a.toNat < 448))) = true := by decide +kernel
  simp only [Bool.and_eq_true, List.all_eq_true, decide_eq_true_eq] at h
  exact fun a ha => by
    rcases ha with ha | ha | ha
    · exact h.1.1 a ha
    · exact h.1.2 a ha
    · exact h.2 a ha
theorem redo_seqs (ws : List W3) (hl : ws.length = 448) : seqsTo 3 8 2 (redoL 3 8 2 ws) 3 = seqsTo 3 8 2 ws 3 := by
  unfold seqsTo
  refine List.map_congr_left fun i hi => ?_
  have hi3 : i < 3 := List.mem_range.1 hi
  have hm : atL 3 8 2 4 (i : Nat) 0 ∈ statusesL 3 8 2 := by
    match i, hi3 with
    | 0, _ => decide
    | 1, _ => decide
    | 2, _ => decide
  rw [redo_status apart382 ws hm (by rw [hl]; exact in382 _ (.inr (.inl hm)))]
  split <;> rfl
theorem check_twice (ws : List W3) (hl : ws.length = 448) (hr : recsL 3 8 2 (redoL 3 8 2 ws) 3 = true) : ∀ n ∈ checkL 3 8 2 (redoL 3 8 2 ws), n ≠ 1 ∧ n ≠ 2 := by
  intro n hn
  have hc := redo_clean apart382 ws (fun a ha => by rw [hl]; exact in382 a ha)
  unfold checkL outTo at hn
  rw [hc, show (3 : Int).toNat = 3 from rfl, hr] at hn
  obtain ⟨i, hi, rfl⟩ := List.mem_map.1 hn
  obtain ⟨h5, hf⟩ := List.mem_filter.1 hi
  match i, hf with
  | 0, hf => simp at hf
  | 1, hf => simp at hf
  | i + 2, _ => exact ⟨by omega, by omega⟩
end Go.Proofs.YtbomhhkknopdpaaGreatDoor
