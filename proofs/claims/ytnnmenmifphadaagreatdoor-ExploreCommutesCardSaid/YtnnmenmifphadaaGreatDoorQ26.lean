/- Several cells set in a row. No program. -/
import Derived.Test.YtnnmenmifphadaaGreatDoorQ24
set_option linter.unusedSimpArgs false
set_option linter.unusedVariables false
namespace Go.Proofs.YtnnmenmifphadaaGreatDoor
open Go.RowKit
def setCells (w : World) (b o : Nat) : List Value → World
 | [] => w
 | v :: vs => setCells (w.setCell ⟨b, o, none⟩ v) b (o + 1) vs
def setRange {α : Type} (xs : List α) (i : Nat) : List α → List α
 | [] => xs
 | v :: vs => setRange (xs.set i v) (i + 1) vs
theorem Rd.setCells {B size n b off : Nat} : ∀ (vs : List Value) {w : World} {xs : List Value} {i : Nat}, Rd w B size (some ⟨b, off, none⟩) n xs → i + vs.length ≤ xs.length → Rd (setCells w b (off + i) vs) B size (some ⟨b, off, none⟩) n (setRange xs i vs)
 | [], w, xs, i, h, _ => h
 | v :: vs, w, xs, i, h, hl => by
  rw [List.length_cons] at hl
  exact Rd.setCells vs (i := i + 1) (Rd.setAt h (i := i) oM v) (by rw [List.length_set]; omega)
theorem setRange_eq {α : Type} : ∀ (vs xs : List α) (i : Nat), i + vs.length ≤ xs.length → setRange xs i vs = xs.take i ++ vs ++ xs.drop (i + vs.length)
 | [], xs, i, _ => by simp [setRange]
 | v :: vs, xs, i, h => by
  rw [List.length_cons] at h
  rw [setRange, setRange_eq vs _ _ (by rw [List.length_set]; omega), List.length_cons]
  have h1 : (xs.set i v).take (i + 1) = xs.take i ++ [v] := by
   rw [List.take_add_one, List.take_set_of_le (Nat.le_refl _), List.getElem?_set_self oM]
   rfl
  have h2 : (xs.set i v).drop (i + 1 + vs.length) = xs.drop (i + (vs.length + 1)) := by
   rw [List.drop_set_of_lt oM, show i + 1 + vs.length = i + (vs.length + 1) by omega]
  rw [h1, h2]
  simp
theorem flatMap_put {α β : Type} {s : Nat} {g : α → List β} (hg : ∀ a, (g a).length = s) (l : List α) (j : Nat) (a' : α) (hj : j < l.length) : setRange (l.flatMap g) (j * s) (g a') = (l.set j a').flatMap g := by
 have hlen : ∀ l : List α, (l.flatMap g).length = l.length * s := by
  intro l
  induction l with
  | nil => simp
  | cons a l ih => rw [List.flatMap_cons, List.length_append, ih, hg, List.length_cons, Nat.succ_mul]; omega
 have h1 : (j + 1) * s ≤ l.length * s := Nat.mul_le_mul_right _ hj
 rw [Nat.succ_mul] at h1
 rw [setRange_eq _ _ _ (by rw [hg, hlen]; exact h1), hg, List.set_eq_take_append_cons_drop, if_pos hj]
 rw [List.flatMap_append, List.flatMap_cons]
 have e1 : (l.flatMap g).take (j * s) = (l.take j).flatMap g := by
  conv => lhs; rw [← List.take_append_drop j l, List.flatMap_append]
  rw [List.take_append_of_le_length (by rw [hlen, List.length_take, Nat.min_eq_left oM]; exact Nat.le_refl _), List.take_of_length_le (by rw [hlen, List.length_take, Nat.min_eq_left oM]; exact Nat.le_refl _)]
 have e2 : (l.flatMap g).drop (j * s + s) = (l.drop (j + 1)).flatMap g := by
  conv => lhs; rw [← List.take_append_drop (j + 1) l, List.flatMap_append]
  have hx : ((l.take (j + 1)).flatMap g).length = j * s + s := by rw [hlen, List.length_take, Nat.min_eq_left oM, Nat.succ_mul]
  rw [← hx, List.drop_left]
 rw [e1, e2, List.append_assoc]
end Go.Proofs.YtnnmenmifphadaaGreatDoor
