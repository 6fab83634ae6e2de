/- The words of a memory are words; what recovery does to them. Plain. -/
import Derived.Test.YtbomhhkknopdpaaGreatDoorM3
import Derived.Test.YtbomhhkknopdpaaGreatDoorR14
namespace Go.Proofs.YtbomhhkknopdpaaGreatDoor
set_option linter.unusedSimpArgs false
set_option linter.unusedVariables false
open Go.RowKit
theorem setV_ok {o : List W3} {v a : Int} (ho : ∀ x ∈ o, x.ok) (hv : i64ok v) : ∀ x ∈ setV v o a, x.ok := by
  unfold setV
  have hx := ok_getD ho a.toNat
  exact set_ok ho ⟨hv.1, hv.2, hx.2.2.1, hx.2.2.2.1, hx.2.2.2.2.1, hx.2.2.2.2.2⟩
theorem foldV_ok {v : Int} (hv : i64ok v) : ∀ (l : List Int) (o : List W3), (∀ x ∈ o, x.ok) → ∀ x ∈ l.foldl (setV v) o, x.ok
  | [], _, h => h
  | _ :: l, _, h => foldV_ok hv l _ (setV_ok h hv)
theorem firstL_ok (T C B : Int) : ∀ x ∈ firstL T C B, x.ok := by
  unfold firstL first2 first1
  refine foldV_ok ⟨by decide, by decide⟩ _ _ (foldV_ok ⟨by decide, by decide⟩ _ _ (setV_ok (fun x hx => ?_) ⟨by decide, by decide⟩))
  rw [List.eq_of_mem_replicate hx]
  exact z3_ok
theorem ents_ok (s : Sl) (hs : s.ok) (k : Nat) : (entsTo s k).2.length ≤ k ∧ ∀ e ∈ (entsTo s k).2, e.o.ok ∧ i64ok e.n ∧ 0 ≤ e.a ∧ e.a < 4096 := by
  induction k with
  | zero => exact ⟨Nat.le_refl _, fun e he => by cases he⟩
  | succ k ih =>
    rw [entsTo_succ]
    unfold entStep
    split
    · rename_i hc
      refine ⟨by simp only [List.length_append, List.length_singleton]; omega, fun e he => ?_⟩
      simp only [List.mem_append, List.mem_singleton] at he
      rcases he with he | rfl
      · exact ih.2 e he
      · obtain ⟨-, -, -, q6, q7, -⟩ := hs
        have ho := ok_getD q6 k
        obtain ⟨o1, o2, o3, o4, -, -⟩ := ho
        have hin := atL_in 3 8 2 valid382 3 (by decide) (s.at_.getD k 0 % 8) 0 (by omega) (by show _ < (8 : Int); omega) (by decide) (by decide)
        refine ⟨⟨o1, o2, by simp only [entOf]; omega, by simp only [entOf]; omega, by simp only [entOf]; decide, by simp only [entOf]; decide⟩, ?_, by simp only [entOf]; omega, ?_⟩
        · simp only [entOf]
          split
          · rw [List.getD_eq_getElem?_getD, List.getElem?_eq_getElem hc.2.2.1]
            exact q7 _ (List.getElem_mem _)
          · exact ⟨o1, o2⟩
        · have h2 : fromL 3 8 2 7 = 448 := from382
          simp only [entOf]
          omega
    · exact ⟨by omega, ih.2⟩
theorem slWords_ok (s : Sl) (hs : s.ok) : ∀ x ∈ slWords s, x.ok := by
  obtain ⟨h1, h2⟩ := ents_ok s hs s.at_.length
  obtain ⟨-, -, -, -, -, hm, -⟩ := hs
  unfold maxLen at hm
  intro x hx
  unfold slWords dwordsL at hx
  simp only [List.mem_append, List.mem_cons, List.not_mem_nil, or_false, List.mem_flatMap] at hx
  rcases hx with (rfl | rfl) | ⟨e, he, hx⟩
  · refine ⟨?_, ?_, ?_, ?_, ?_, ?_⟩ <;> simp only [] <;> omega
  · refine ⟨?_, ?_, ?_, ?_, ?_, ?_⟩ <;> simp only [] <;> omega
  · obtain ⟨⟨o1, o2, o3, o4, o5, o6⟩, ⟨n1, n2⟩, a1, a2⟩ := h2 e he
    unfold pack3 packL at hx
    simp only [List.mem_cons, List.not_mem_nil, or_false] at hx
    rcases hx with rfl | rfl | rfl
    · refine ⟨?_, ?_, ?_, ?_, ?_, ?_⟩ <;> simp only [] <;> (try split) <;> omega
    · refine ⟨?_, ?_, ?_, ?_, ?_, ?_⟩ <;> simp only [] <;> omega
    · refine ⟨?_, ?_, ?_, ?_, ?_, ?_⟩ <;> simp only [] <;> omega
theorem putAll_ok {p : Nat} {ws o : List W3} (hw : ∀ x ∈ ws, x.ok) (ho : ∀ x ∈ o, x.ok) (k : Nat) : ∀ x ∈ putAll p ws o k, x.ok := by
  induction k with
  | zero => exact ho
  | succ k ih => rw [putAll_succ]; exact set_ok ih (ok_getD hw k)
theorem slotsOut_ok {l : List Sl} {o : List W3} (hl : ∀ s ∈ l, s.ok) (ho : ∀ x ∈ o, x.ok) (k : Nat) : ∀ x ∈ slotsOut l o k, x.ok := by
  induction k with
  | zero => exact ho
  | succ k ih =>
    rw [slotsOut_succ]
    unfold slStep
    split
    · exact ih
    · rename_i s hs
      split
      · exact putAll_ok (slWords_ok s (hl s (List.mem_of_getElem? hs))) ih _
      · exact ih
theorem slWho_ok (i : Nat) : 0 ≤ slWho i ∧ slWho i ≤ 10 := by
  unfold slWho holdersL
  match i with
  | 0 => decide
  | 1 => decide
  | 2 => decide
  | 3 => decide
  | 4 => decide
  | i + 5 => exact ⟨by simp, by simp⟩
theorem ceWord_ok {c : Ce} (h : c.ok) : (ceWord c).ok := by
  obtain ⟨⟨h1, h2⟩, h3, h4, h5⟩ := h
  have hw := slWho_ok ((c.who % 6).toNat - 1)
  have hr : 0 ≤ refL c ∧ refL c < 4294967296 := by
    unfold refL
    split
    · exact ⟨by decide, by decide⟩
    · constructor <;> omega
  exact ⟨h1, h2, by simp only [ceWord]; omega, by simp only [ceWord]; omega, hr.1, hr.2⟩
theorem cesOut_ok {l : List Ce} {o : List W3} (hl : ∀ s ∈ l, s.ok) (ho : ∀ x ∈ o, x.ok) (k : Nat) : ∀ x ∈ cesOut l o k, x.ok := by
  induction k with
  | zero => exact ho
  | succ k ih =>
    rw [cesOut_succ]
    split
    · exact ih
    · rename_i c hc
      exact set_ok ih (ceWord_ok (hl c (List.mem_of_getElem? hc)))
theorem recsOut_ok {l : List (Int × Int × Int)} {o : List W3} (hl : ∀ r ∈ l, i64ok r.1 ∧ i64ok r.2.1 ∧ i64ok r.2.2) (ho : ∀ x ∈ o, x.ok) (k : Nat) : ∀ x ∈ recsOut l o k, x.ok := by
  induction k with
  | zero => exact ho
  | succ k ih =>
    rw [recsOut_succ]
    split
    · exact ih
    · rename_i r hr
      obtain ⟨h1, h2, h3⟩ := hl r (List.mem_of_getElem? hr)
      unfold recOut
      exact setV_ok (setV_ok (setV_ok ih h1) h2) h3
theorem overOut_ok {l : List W3} {ats : List Int} {o : List W3} (hl : ∀ x ∈ l, x.ok) (ho : ∀ x ∈ o, x.ok) (k : Nat) : ∀ x ∈ overOut l ats o k, x.ok := by
  induction k with
  | zero => exact ho
  | succ k ih =>
    rw [overOut_succ]
    split
    · exact ih
    · rename_i y hy
      split
      · exact ih
      · exact set_ok ih (hl y (List.mem_of_getElem? hy))
theorem MemArg.ok_words {m : MemArg} (h : m.ok) : ∀ x ∈ m.words, x.ok := by
  obtain ⟨h1, h2, h3, h4, -⟩ := h
  exact overOut_ok h4 (recsOut_ok h3 (cesOut_ok h2 (slotsOut_ok h1 (firstL_ok 3 8 2) _) _) _) _
theorem MemArg.len_words (m : MemArg) : m.words.length = 448 := makeL_len _ _ _ _ _
/-! The example of the chapter. -/
def awL : List W3 := makeL [⟨0, 3, [0], [⟨5, 2, 0⟩], [9], true⟩] [⟨5, 2, 1, 3⟩] [(3, 7, 0)] [] []
set_option maxRecDepth 100000 in
theorem aw_recs : recsL 3 8 2 (redoL 3 8 2 awL) 3 = true := by decide +kernel
set_option maxRecDepth 100000 in
theorem aw_rep : askedL 3 8 2 (redoL 3 8 2 awL) 1 = (3, 0, 7, 0) := by decide +kernel
set_option maxRecDepth 100000 in
theorem aw_seqs : (seqsTo 3 8 2 awL 3)[0]? = some 5 := by decide +kernel
set_option maxRecDepth 100000 in
theorem aw_cell : (redoL 3 8 2 awL)[(atL 3 8 2 3 0 0).toNat]? = some ⟨5, 2, 0⟩ := by decide +kernel
end Go.Proofs.YtbomhhkknopdpaaGreatDoor
