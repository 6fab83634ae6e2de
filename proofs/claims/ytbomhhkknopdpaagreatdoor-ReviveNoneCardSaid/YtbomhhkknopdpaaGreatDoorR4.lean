/- Package redo: Words. -/
import Derived.Test.YtbomhhkknopdpaaGreatDoorR1
import Derived.Test.YtbomhhkknopdpaaGreatDoorR3
namespace Go.Proofs.YtbomhhkknopdpaaGreatDoor
set_option linter.unusedSimpArgs false
set_option linter.unusedVariables false
open Go.RowKit
/-- The three passes of the recovery. -/
def pass1 (T C B : Int) (ws o : List W3) (a : Int) : List W3 := o.set a.toNat (logicalL T C B ws a.toNat)
def pass2 (ws o : List W3) (a : Int) : List W3 := if undecidedW (ws.getD a.toNat z3) = true then o.set a.toNat (failedW (ws.getD a.toNat z3)) else o
def pass3 (o : List W3) (a : Int) : List W3 := o.set a.toNat z3
def redo1 (T C B : Int) (ws : List W3) : List W3 := (mayLs T C B).foldl (pass1 T C B ws) ws
def redo2 (T C B : Int) (ws : List W3) : List W3 := (statusesL T C B).foldl (pass2 ws) (redo1 T C B ws)
/-- The recovered words. -/
def redoL (T C B : Int) (ws : List W3) : List W3 := (ownLs T C B).foldl pass3 (redo2 T C B ws)
theorem fold1_len (T C B : Int) (ws : List W3) : ∀ (l : List Int) (o : List W3), (l.foldl (pass1 T C B ws) o).length = o.length
  | [], _ => rfl
  | a :: l, o => by rw [List.foldl_cons, fold1_len T C B ws l, pass1, List.length_set]
theorem fold2_len (ws : List W3) : ∀ (l : List Int) (o : List W3), (l.foldl (pass2 ws) o).length = o.length
  | [], _ => rfl
  | a :: l, o => by
    rw [List.foldl_cons, fold2_len ws l, pass2]
    split
    · rw [List.length_set]
    · rfl
theorem fold3_len : ∀ (l : List Int) (o : List W3), (l.foldl pass3 o).length = o.length
  | [], _ => rfl
  | a :: l, o => by rw [List.foldl_cons, fold3_len l, pass3, List.length_set]
theorem redoL_len (T C B : Int) (ws : List W3) : (redoL T C B ws).length = ws.length := by
  unfold redoL redo2 redo1
  rw [fold3_len, fold2_len, fold1_len]
theorem mayLs_in {T C B : Int} {a : Int} (h : a ∈ mayLs T C B) : mayL T C B a = true := by
  unfold mayLs mayTo at h
  exact (List.mem_filter.1 h).2
theorem atL_in (T C B : Int) (hv : Valid T C B) (p : Nat) (hp : p ≤ 6) (i more : Int) (h0 : 0 ≤ i) (h1 : i < manyL T C B p) (m0 : 0 ≤ more) (m1 : more < (if p = 5 then 8 else sizeL p)) : 0 ≤ atL T C B p i more ∧ atL T C B p i more < fromL T C B 7 := by
  have e7 : fromL T C B 7 = fromL T C B 6 + longL T C B 6 := rfl
  have e6 : fromL T C B 6 = fromL T C B 5 + longL T C B 5 := rfl
  have e5 : fromL T C B 5 = fromL T C B 4 + longL T C B 4 := rfl
  have e4 : fromL T C B 4 = fromL T C B 3 + longL T C B 3 := rfl
  have e3 : fromL T C B 3 = fromL T C B 2 + longL T C B 2 := rfl
  have e2 : fromL T C B 2 = fromL T C B 1 + longL T C B 1 := rfl
  have e1 : fromL T C B 1 = fromL T C B 0 + longL T C B 0 := rfl
  have e0 : fromL T C B 0 = 0 := rfl
  have l0 := (long_le T C B hv.1 0).1
  have l1 := (long_le T C B hv.1 1).1
  have l2 := (long_le T C B hv.1 2).1
  have l3 := (long_le T C B hv.1 3).1
  have l4 := (long_le T C B hv.1 4).1
  have l5 := (long_le T C B hv.1 5).1
  have l6 := (long_le T C B hv.1 6).1
  unfold atL
  rw [if_pos ⟨h0, h1⟩]
  match p, hp with
  | 0, _ =>
    have h1' : i < 1 := h1
    have q : longL T C B 0 = 8 := rfl
    have m1' : more < 8 := m1
    show 0 ≤ fromL T C B 0 + i * 8 + more ∧ fromL T C B 0 + i * 8 + more < fromL T C B 7
    clear m1 h1
    omega
  | 1, _ =>
    have h1' : i < T := h1
    have q : longL T C B 1 = 8 * T := rfl
    have m1' : more < 8 := m1
    show 0 ≤ fromL T C B 1 + i * 8 + more ∧ fromL T C B 1 + i * 8 + more < fromL T C B 7
    clear m1 h1
    omega
  | 2, _ =>
    have h1' : i < T := h1
    have q : longL T C B 2 = 8 * T := rfl
    have m1' : more < 8 := m1
    show 0 ≤ fromL T C B 2 + i * 8 + more ∧ fromL T C B 2 + i * 8 + more < fromL T C B 7
    clear m1 h1
    omega
  | 3, _ =>
    have h1' : i < C := h1
    have q : longL T C B 3 = (C + 7) / 8 * 8 := rfl
    have m1' : more < 1 := m1
    show 0 ≤ fromL T C B 3 + i * 1 + more ∧ fromL T C B 3 + i * 1 + more < fromL T C B 7
    clear m1 h1
    omega
  | 4, _ =>
    have h1' : i < T := h1
    have q : longL T C B 4 = 104 * T := rfl
    have m1' : more < 104 := m1
    show 0 ≤ fromL T C B 4 + i * 104 + more ∧ fromL T C B 4 + i * 104 + more < fromL T C B 7
    clear m1 h1
    omega
  | 5, _ =>
    have h1' : i < B := h1
    have q : longL T C B 5 = 8 := by
      show (if 0 < B then (8 : Int) else 0) = 8
      rw [if_pos (by omega)]
    have m1' : more < 8 := m1
    show 0 ≤ fromL T C B 5 + i * 0 + more ∧ fromL T C B 5 + i * 0 + more < fromL T C B 7
    clear m1 h1
    omega
  | 6, _ =>
    have h1' : i < B := h1
    have q : longL T C B 6 = 32 * B := rfl
    have m1' : more < 32 := m1
    show 0 ≤ fromL T C B 6 + i * 32 + more ∧ fromL T C B 6 + i * 32 + more < fromL T C B 7
    clear m1 h1
    omega
theorem statuses_in {T C B : Int} (hv : Valid T C B) {a : Int} (h : a ∈ statusesL T C B) : 0 ≤ a ∧ a < fromL T C B 7 := by
  unfold statusesL slotsTo blocksTo at h
  rw [List.mem_append, List.mem_map, List.mem_map] at h
  rcases h with ⟨i, hi, rfl⟩ | ⟨i, hi, rfl⟩
  · rw [List.mem_range] at hi
    exact atL_in T C B hv 4 (by decide) _ _ (by omega) (by show (i : Int) < T; omega) (by decide) (by decide)
  · rw [List.mem_range] at hi
    exact atL_in T C B hv 6 (by decide) _ _ (by omega) (by show (i : Int) < B; omega) (by decide) (by decide)
theorem ownLs_in {T C B : Int} (hv : Valid T C B) {a : Int} (h : a ∈ ownLs T C B) : 0 ≤ a ∧ a < fromL T C B 7 := by
  unfold ownLs ownTo at h
  rw [List.mem_flatMap] at h
  obtain ⟨i, hi, h⟩ := h
  rw [List.mem_range] at hi
  simp only [List.mem_cons, List.not_mem_nil, or_false] at h
  rcases h with rfl | rfl
  · exact atL_in T C B hv 1 (by decide) _ _ (by omega) (by show (i : Int) < T; omega) (by decide) (by decide)
  · exact atL_in T C B hv 1 (by decide) _ _ (by omega) (by show (i : Int) < T; omega) (by decide) (by decide)
end Go.Proofs.YtbomhhkknopdpaaGreatDoor
