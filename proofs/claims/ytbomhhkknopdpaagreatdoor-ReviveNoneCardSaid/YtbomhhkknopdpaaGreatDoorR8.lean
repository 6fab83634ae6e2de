/- The recovered words are words; the reports. No walk. -/
import Derived.Test.YtbomhhkknopdpaaGreatDoorR4
namespace Go.Proofs.YtbomhhkknopdpaaGreatDoor
set_option linter.unusedSimpArgs false
set_option linter.unusedVariables false
open Go.RowKit
theorem ok_getD {ws : List W3} (hok : ∀ x ∈ ws, x.ok) (k : Nat) : (ws.getD k z3).ok := by
  rw [List.getD_eq_getElem?_getD]
  cases h : ws[k]? with
  | none => exact ⟨by decide, by decide, by decide, by decide, by decide, by decide⟩
  | some x => exact hok x (List.mem_of_getElem? h)
def i64ok (n : Int) : Prop := -9223372036854775808 ≤ n ∧ n ≤ 9223372036854775807
theorem unpackL_n (x y z : W3) (hz : z.ok) : i64ok (unpackL x y z).1.n := by
  unfold unpackL
  split
  · exact ⟨by decide, by decide⟩
  · split
    · exact ⟨hz.1, hz.2.1⟩
    · exact ⟨by decide, by decide⟩
theorem entsL_n {ws : List W3} (hok : ∀ x ∈ ws, x.ok) {p : Nat} : ∀ {k : Nat} {es : List En}, entsL ws p k = some es → ∀ e ∈ es, i64ok e.n
  | 0, es, h => by
    simp only [entsL, Option.some.injEq] at h
    subst h
    simp
  | k + 1, es, h => by
    unfold entsL at h
    cases h1 : entsL ws p k with
    | none => rw [h1] at h; cases h
    | some es' =>
      rw [h1] at h
      simp only [] at h
      split at h
      · injection h with h
        subst h
        intro e he
        rcases List.mem_append.1 he with he | he
        · exact entsL_n hok h1 e he
        · rw [List.mem_singleton.1 he]
          exact unpackL_n _ _ _ (ok_getD hok _)
      · cases h
theorem readL_n {T C B who sq st : Int} {ws : List W3} {es : List En} (hok : ∀ x ∈ ws, x.ok) (h : readL T C B ws who = some (sq, st, es)) : ∀ e ∈ es, i64ok e.n := by
  unfold readL at h
  split at h
  · cases h
  · split at h
    · cases he : entsL ws (placeL T C B who).toNat (ws.getD ((placeL T C B who).toNat + 1) z3).v.toNat with
      | none => rw [he] at h; cases h
      | some es' =>
        rw [he] at h
        simp only [] at h
        split at h
        · injection h with h
          injection h with _ h
          injection h with _ h
          subst h
          exact entsL_n hok he
        · cases h
    · cases h
theorem plainW_ok {x : W3} (h : x.ok) : (plainW x).ok := ⟨h.1, h.2.1, h.2.2.1, h.2.2.2.1, by show (0 : Int) ≤ 0; decide, by show (0 : Int) < 4294967296; decide⟩
theorem logicalL_ok (T C B : Int) {ws : List W3} (hok : ∀ x ∈ ws, x.ok) (p : Nat) : (logicalL T C B ws p).ok := by
  have hx := ok_getD hok p
  unfold logicalL
  simp only []
  split
  · exact plainW_ok hx
  · split
    · exact plainW_ok hx
    · rename_i hr
      split
      · split
        · exact plainW_ok hx
        · rename_i hf
          have hm := List.mem_of_find?_eq_some hf
          have hn := readL_n hok hr _ hm
          refine ⟨hn.1, hn.2, ?_, ?_, by show (0 : Int) ≤ 0; decide, by show (0 : Int) < 4294967296; decide⟩
          · show 0 ≤ up32 _; unfold up32; omega
          · show up32 _ < 4294967296; unfold up32; omega
      · exact plainW_ok hx
theorem set_ok {o : List W3} {x : W3} {k : Nat} (ho : ∀ x ∈ o, x.ok) (hx : x.ok) : ∀ y ∈ o.set k x, y.ok := fun y hy => by
  rcases List.mem_or_eq_of_mem_set hy with h | h
  · exact ho y h
  · rw [h]; exact hx
theorem z3_ok : z3.ok := ⟨by decide, by decide, by decide, by decide, by decide, by decide⟩
theorem fold1_ok (T C B : Int) {ws : List W3} (hok : ∀ x ∈ ws, x.ok) : ∀ (l : List Int) (o : List W3), (∀ x ∈ o, x.ok) → ∀ x ∈ l.foldl (pass1 T C B ws) o, x.ok
  | [], _, h => h
  | _ :: l, _, h => fold1_ok T C B hok l _ (set_ok h (logicalL_ok T C B hok _))
theorem fold2_ok {ws : List W3} (hok : ∀ x ∈ ws, x.ok) : ∀ (l : List Int) (o : List W3), (∀ x ∈ o, x.ok) → ∀ x ∈ l.foldl (pass2 ws) o, x.ok
  | [], _, h => h
  | a :: l, _, h => fold2_ok hok l _ (by
      unfold pass2
      split
      · have hx := ok_getD hok a.toNat
        exact set_ok h ⟨by show -9223372036854775808 ≤ (2 : Int); decide, by show (2 : Int) ≤ 9223372036854775807; decide, hx.2.2.1, hx.2.2.2.1, by show (0 : Int) ≤ 0; decide, by show (0 : Int) < 4294967296; decide⟩
      · exact h)
theorem fold3_ok : ∀ (l : List Int) (o : List W3), (∀ x ∈ o, x.ok) → ∀ x ∈ l.foldl pass3 o, x.ok
  | [], _, h => h
  | _ :: l, _, h => fold3_ok l _ (set_ok h z3_ok)
theorem redoL_ok (T C B : Int) {ws : List W3} (hok : ∀ x ∈ ws, x.ok) : ∀ x ∈ redoL T C B ws, x.ok := fold3_ok _ _ (fold2_ok hok _ _ (fold1_ok T C B hok _ _ hok))
end Go.Proofs.YtbomhhkknopdpaaGreatDoor
