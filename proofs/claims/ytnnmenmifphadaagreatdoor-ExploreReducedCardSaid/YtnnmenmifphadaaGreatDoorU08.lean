/- The builtin append onto a slice of the call's own, of a slice that can be read (nil let in). No program. -/
import Derived.Test.YtnnmenmifphadaaGreatDoorU05
set_option linter.unusedSimpArgs false
set_option linter.unusedVariables false
namespace Go.Proofs.YtnnmenmifphadaaGreatDoor
open Go.RowKit
theorem run_append_any {P : Program} (w : World) (base : Nat) (t ty e : TypeId) (i : TypeInfo) (z : Value) (size bytes : Nat) (ht : P.underlying t = some (.slice e)) (hi : P.info? e = some i) (hz : i.zero = some z)
  (hsize : i.size = size) (hby : i.bytes = bytes) (hzs : z.cells.size = size) (hsz : 0 < size)
  (v : Value) (n : Nat) (xs : List Value) (hown : w.ownsRow base e size v n xs)
  (A : Option Addr) (m c : Nat) (news : List Value) (hl : news.length = m * size) (hnews : 0 < m → ∃ a, A = some a ∧ ∀ j u, news[j]? = some u → w.cell? (a.add j) = some u) (h1 : ∀ u ∈ news, u.oneCell' = true)
  (h63 : n + m ≤ maxLen) (hbytes : (n + m) * bytes ≤ 140737488355328) (hbase : base ≤ w.heap.size) :
  ∃ v' w', (Builtin.append_ #[t, t] ty #[v, .slice A m c]).run P w = .ok v' w' ∧ w'.ownsRow base e size v' (n + m) (xs ++ news) ∧ w.grownBy w' v.ownBlock := by
 cases A with
 | some a =>
  obtain ⟨v', w', h2, h3, h4, _⟩ := run_append_own w base t ty e i z size bytes ht hi hz hsize hby hzs hsz v n xs hown a m c news hl (fun j u hu => by
   rcases Nat.eq_zero_or_pos m with h0 | h0
   ·subst h0
    obtain rfl : news = [] := List.eq_nil_of_length_eq_zero (by simpa using hl)
    simp at hu
   ·obtain ⟨a', e, h⟩ := hnews h0
    injection e with e
    subst e
    exact h j u hu) h1 h63 hbytes hbase
  exact ⟨v', w', h2, h3, h4⟩
 | none =>
  rcases Nat.eq_zero_or_pos m with h0 | h0
  ·subst h0
   obtain rfl : news = [] := List.eq_nil_of_length_eq_zero (by simpa using hl)
   refine ⟨v, w, ?_, by simpa using hown, ⟨rfl, rfl, rfl, Nat.le_refl _, fun _ _ _ => rfl⟩⟩
   rcases hown.2 with ⟨rfl, rfl⟩ | ⟨g, cap, cur, rfl, _, _, hnc, _⟩
   ·simp [Builtin.append_, run_underlying ht, sizeOf, typeInfo, hi, Builtin.lenOf, Builtin.firstCells]
   ·simp [Builtin.append_, run_underlying ht, sizeOf, typeInfo, hi, Builtin.lenOf, Builtin.firstCells, hnc, storeCells]
  ·obtain ⟨a', e, _⟩ := hnews h0
   cases e
theorem wpList_append_rd {P : Program} {w : World} {ops : Array Oper} {rest : List Oper} {o : Oper} {a : Act} {Q : Exit → Act → World → Prop} (hgd : o.guard = none) (s x : Operand) (t : TypeId)
  (ho : o.op = .call { callee := .builtin .append, args := #[s, x], argTypes := #[t, t] })
  (base : Nat) (e : TypeId) (i : TypeInfo) (z : Value) (size bytes : Nat) (ht : P.underlying t = some (.slice e)) (hi : P.info? e = some i) (hz : i.zero = some z)
  (hsize : i.size = size) (hby : i.bytes = bytes) (hzs : z.cells.size = size) (hsz : 0 < size)
  (v : Value) (n : Nat) (xs : List Value) (hs : a.eval s = v) (hown : w.ownsRow base e size v n xs)
  (A : Option Addr) (m c : Nat) (news : List Value) (hx : a.eval x = .slice A m c) (B2 : Nat) (hr : Rd w B2 size A m news) (h1 : ∀ u ∈ news, u.oneCell' = true)
  (h63 : n + m ≤ maxLen) (hbytes : (n + m) * bytes ≤ 140737488355328) (hbase : base ≤ w.heap.size) (B : Nat) (w0 : World) (hb : Below B w0 w) (hB : B ≤ base)
  (h : ∀ v' w', w'.ownsRow base e size v' (n + m) (xs ++ news) → Below B w0 w' → w.heap.size ≤ w'.heap.size → wpList P ops Q rest (a.put o.dst v') w') : wpList P ops Q (o :: rest) a w := by
 refine wpList_plain hgd fun K hK => ?_
 obtain ⟨v', w', hr', h2, h3⟩ := run_append_any (P := P) w base t o.type e i z size bytes ht hi hz hsize hby hzs hsz v n xs hown A m c news hr.1 (fun h0 => by
  obtain ⟨b, off, e, _, hc⟩ := hr.2 h0
  exact ⟨_, e, fun j u hu => by rw [Go.WideShapes.add_plain]; exact hc j u hu⟩) h1 h63 hbytes hbase
 unfold Oper.wp execOp
 simp only [ho, resolve, invoke, builtin, Sem.run_bind, Sem.run_pure, Result.andThen_ok, List.map_toArray, List.map_cons, List.map_nil, hs, hx, hr']
 exact hK _ _ (h v' w' h2 (below_grown hb h3 hown hB (Nat.le_trans hB hbase)) h3.size)
theorem run_append_block {P : Program} (w : World) (base : Nat) (t ty e : TypeId) (i : TypeInfo) (z : Value) (size bytes : Nat) (ht : P.underlying t = some (.slice e)) (hi : P.info? e = some i) (hz : i.zero = some z)
  (hsize : i.size = size) (hby : i.bytes = bytes)
  (v : Value) (n : Nat) (xs : List Value) (hown : w.ownsRow base e size v n xs)
  (A : Option Addr) (m c : Nat) (news : List Value) (hl : news.length = m * size) (hnews : 0 < m → ∃ a, A = some a ∧ ∀ j u, news[j]? = some u → w.cell? (a.add j) = some u) (h1 : ∀ u ∈ news, u.oneCell' = true)
  (h63 : n + m ≤ maxLen) (hbytes : (n + m) * bytes ≤ 140737488355328) (v' : Value) (w' : World) (hr : (Builtin.append_ #[t, t] ty #[v, .slice A m c]).run P w = .ok v' w') :
  v'.ownBlock = v.ownBlock ∨ v'.ownBlock = some w.heap.size := by
 subst hsize hby
 have hsmall : n + m ≤ 9223372036854775807 := by simp only [maxLen] at h63; omega
 rcases Nat.eq_zero_or_pos m with h0 | h0
 ·subst h0
  left
  have hf : (Builtin.firstCells i.size 0 (.slice A 0 c)).run P w = .ok #[] w := by
   cases A with
   | none => simp [Builtin.firstCells]
   | some a => exact run_firstCells_some (P := P) (w := w) i.size 0 a 0 c [] sM sM
  rcases hown.2 with ⟨rfl, rfl⟩ | ⟨g, cap, cur, rfl, _, _, hnc, _⟩
  ·simp [Builtin.append_, run_underlying ht, sizeOf, typeInfo, hi, Builtin.lenOf, hf] at hr
   rw [← hr.1]
  ·simp [Builtin.append_, run_underlying ht, sizeOf, typeInfo, hi, Builtin.lenOf, hf, hnc, storeCells] at hr
   rw [← hr.1]
 ·obtain ⟨a, rfl, hc⟩ := hnews h0
  rcases hown.2 with ⟨rfl, rfl⟩ | ⟨g, cap, cur, rfl, hbg, hg, hnc, hcm, hcs, htake⟩
  ·right
   rw [run_append_nil (P := P) w t ty e i z ht hi hz a m c news hl hc h0 oM (by have hb := hbytes; simp only [Nat.zero_add] at hb; omega)] at hr
   injection hr with hr _
   rw [← hr]
   rfl
  ·by_cases hroom : n + m ≤ cap
   ·left
    have hfit : n * i.size + news.length ≤ cur.size := by rw [hl, hcs, ← Nat.add_mul]; exact Nat.mul_le_mul_right _ hroom
    rw [run_append_room (P := P) w t ty e i ht hi g n cap cur hg a m c news hl hc h1 hroom hfit] at hr
    injection hr with hr _
    rw [← hr]
    rfl
   ·right
    have holds : ∀ j u, xs[j]? = some u → w.cell? ((⟨g, 0, none⟩ : Addr).add j) = some u := hown.cells (g := g) rfl
    rw [run_append_grow (P := P) w t ty e i z ht hi hz ⟨g, 0, none⟩ n cap xs hown.1 holds a m c news hl hc oM oM (growslice_fits oM hbytes)] at hr
    injection hr with hr _
    rw [← hr]
    rfl
theorem own_slice {w : World} {base size n : Nat} {e : TypeId} {v : Value} {xs : List Value} (h : w.ownsRow base e size v n xs) : ∃ A cap, v = .slice A n cap ∧ n ≤ cap ∧ ∀ b off, A = some ⟨b, off, none⟩ → base ≤ b := by
 obtain ⟨_, h2⟩ := h
 rcases h2 with ⟨rfl, rfl⟩ | ⟨g, cap, cur, rfl, hg, _, hc, _⟩
 ·exact ⟨none, 0, rfl, Nat.le_refl _, fun b off e => by cases e⟩
 ·refine ⟨_, cap, rfl, hc, fun b off e => ?_⟩
  injection e with e
  injection e with e
  omega
end Go.Proofs.YtnnmenmifphadaaGreatDoor
