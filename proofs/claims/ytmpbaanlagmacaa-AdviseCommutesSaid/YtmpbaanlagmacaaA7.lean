/- Plain law: exchanging two adjacent notes of different threads leaves the same counts. -/
import Derived.Test.YtmpbaanlagmacaaA4
namespace Go.Proofs.Ytmpbaanlagmacaa
open Go.RowKit Go.Maps

theorem upd_comm (f : Int → Int) {a b : Int} (u v : Int) (h : a ≠ b) : upd (upd f a u) b v = upd (upd f b v) a u := by
  funext z
  unfold upd
  by_cases h1 : z = a
  · subst h1
    simp [h]
  · by_cases h2 : z = b
    · subst h2
      simp [h1]
    · simp [h1, h2]
theorem upd_inc (f : Int → Int) (a b : Int) : upd (upd f a (f a + 1)) b (upd f a (f a + 1) b + 1) = upd (upd f b (f b + 1)) a (upd f b (f b + 1) a + 1) := by
  by_cases h : a = b
  · subst h
    rfl
  · rw [upd_other (fun e => h e.symm), upd_other h, upd_comm f _ _ h]
theorem nstep_comm (m : Int) (s : (Int → Int) × (Int → Int)) (x y : Int × Bool × Int) (h : x.1 ≠ y.1) : nstep m (nstep m s x) y = nstep m (nstep m s y) x := by
  obtain ⟨f, g⟩ := s
  obtain ⟨tx, dx, ax⟩ := x
  obtain ⟨ty, dy, ay⟩ := y
  simp only at h
  have h' : ty ≠ tx := fun e => h e.symm
  by_cases hx : 1 ≤ tx ∧ tx ≤ m
  · by_cases hy : 1 ≤ ty ∧ ty ≤ m
    · cases dx <;> cases dy <;> simp only [nstep, hx, hy, and_self, if_true, Bool.false_eq_true, if_false, Prod.mk.injEq, upd_other h, upd_other h'] <;> refine ⟨upd_comm f _ _ h, ?_⟩
      · exact upd_inc g ax ay
      all_goals trivial
    · simp only [nstep, hx, hy, if_false]
  · by_cases hy : 1 ≤ ty ∧ ty ≤ m
    · simp only [nstep, hx, hy, if_false]
    · simp only [nstep, hx, hy, if_false]
theorem nfold_swap (m : Int) (p s : List (Int × Bool × Int)) (x y : Int × Bool × Int) (h : x.1 ≠ y.1) : nfold m (p ++ [x, y] ++ s) = nfold m (p ++ [y, x] ++ s) := by
  simp only [nfold, List.foldl_append, List.foldl_cons, List.foldl_nil]
  rw [nstep_comm m _ x y h]
theorem split2 {α : Type} (l : List α) (k : Nat) (h : k + 1 < l.length) : l = l.take k ++ [l[k]'(by omega), l[k + 1]] ++ l.drop (k + 2) := by
  conv => lhs; rw [← List.take_append_drop k l, List.drop_eq_getElem_cons (by omega), List.drop_eq_getElem_cons (by omega)]
  simp
theorem set6 (P S : List Value) (a b c d e f a' b' c' d' e' f' : Value) : ((((((P ++ [a, b, c, d, e, f] ++ S).set P.length a').set (P.length + 1) b').set (P.length + 2) c').set (P.length + 3) d').set (P.length + 4) e').set (P.length + 5) f' = P ++ [a', b', c', d', e', f'] ++ S := by
  simp
theorem notec_length (p : List (Int × Bool × Int)) : (p.flatMap notec).length = p.length * 3 := by
  induction p with
  | nil => rfl
  | cons a p ih => simp [notec] at ih ⊢; omega
theorem swap_cells (l : List (Int × Bool × Int)) (k : Nat) (tx : Int) (dx : Bool) (ax ty : Int) (dy : Bool) (ay : Int) (hk : k + 1 < l.length) (h : l = l.take k ++ [(tx, dx, ax), (ty, dy, ay)] ++ l.drop (k + 2)) :
    (((((((l.flatMap notec).set (k * 3) (.int .i64 ty)).set (k * 3 + 1) (.bool dy)).set (k * 3 + 2) (.int .i64 ay)).set ((k + 1) * 3) (.int .i64 tx)).set ((k + 1) * 3 + 1) (.bool dx)).set ((k + 1) * 3 + 2) (.int .i64 ax)) =
      (l.take k ++ [(ty, dy, ay), (tx, dx, ax)] ++ l.drop (k + 2)).flatMap notec := by
  have hP : ((l.take k).flatMap notec).length = k * 3 := by rw [notec_length, List.length_take]; congr 1; omega
  have e : l.flatMap notec = (l.take k).flatMap notec ++ [.int .i64 tx, .bool dx, .int .i64 ax, .int .i64 ty, .bool dy, .int .i64 ay] ++ (l.drop (k + 2)).flatMap notec := by
    conv => lhs; rw [h]
    simp [notec]
  have e2 : (l.take k ++ [(ty, dy, ay), (tx, dx, ax)] ++ l.drop (k + 2)).flatMap notec = (l.take k).flatMap notec ++ [.int .i64 ty, .bool dy, .int .i64 ay, .int .i64 tx, .bool dx, .int .i64 ax] ++ (l.drop (k + 2)).flatMap notec := by
    simp [notec]
  rw [e, e2]
  generalize (l.take k).flatMap notec = P at hP ⊢
  rw [show (k + 1) * 3 = P.length + 3 by omega, show k * 3 = P.length by omega]
  rw [set6]
end Go.Proofs.Ytmpbaanlagmacaa
