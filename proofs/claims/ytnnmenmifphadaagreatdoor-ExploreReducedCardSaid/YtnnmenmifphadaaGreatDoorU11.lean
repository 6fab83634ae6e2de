/- The builtin append of one element onto a slice without room, nil let in: a row of the call's own. No program. -/
import Derived.Test.YtnnmenmifphadaaGreatDoorU08
import Derived.Test.YtnnmenmifphadaaGreatDoorU10
set_option linter.unusedSimpArgs false
set_option linter.unusedVariables false
namespace Go.Proofs.YtnnmenmifphadaaGreatDoor
open Go.RowKit
theorem run_append_one {P : Program} (w : World) (t ty e : TypeId) (i : TypeInfo) (z : Value) (size bytes : Nat) (ht : P.underlying t = some (.slice e)) (hi : P.info? e = some i) (hz : i.zero = some z)
  (hsize : i.size = size) (hby : i.bytes = bytes) (hzs : z.cells.size = size) (B : Nat) (A : Option Addr) (m : Nat) (xs : List Value) (hr : Rd w B size A m xs) (hA : A = none → m = 0)
  (a : Addr) (c : Nat) (news : List Value) (hl : news.length = size) (hnews : ∀ j u, news[j]? = some u → w.cell? (a.add j) = some u)
  (h63 : m + 1 ≤ maxLen) (hbytes : (m + 1) * bytes ≤ 140737488355328) :
  ∃ cap' w', (Builtin.append_ #[t, t] ty #[.slice A m m, .slice (some a) 1 c]).run P w = .ok (.slice (some ⟨w.heap.size, 0, none⟩) (m + 1) cap') w' ∧ w'.ownsRow w.heap.size e size (.slice (some ⟨w.heap.size, 0, none⟩) (m + 1) cap') (m + 1) (xs ++ news) ∧ Below w.heap.size w w' ∧ w.heap.size < w'.heap.size := by
 subst hsize hby
 have hsmall : m + 1 ≤ 9223372036854775807 := by simp only [maxLen] at h63; omega
 have hown : ∀ (cap : Nat) (zs : Array Value), m + 1 ≤ cap → cap ≤ maxLen → zs.size = (cap - (m + 1)) * i.size → (w.drew.alloc (.cells (xs.toArray ++ news.toArray ++ zs) e)).ownsRow w.heap.size e i.size (.slice (some ⟨w.heap.size, 0, none⟩) (m + 1) cap) (m + 1) (xs ++ news) := by
  intro cap zs h1 h2 h3
  refine ⟨by rw [List.length_append, hr.1, hl, Nat.succ_mul], .inr ⟨w.heap.size, cap, _, rfl, Nat.le_refl _, heap_alloc_new w.drew _, h1, h2, ?_, ?_⟩⟩
  ·have : (m + 1) * i.size + (cap - (m + 1)) * i.size = cap * i.size := by rw [← Nat.add_mul, show m + 1 + (cap - (m + 1)) = cap by omega]
   simp only [Array.size_append, List.size_toArray, hr.1, hl, h3]
   rw [Nat.succ_mul] at this
   omega
  ·simp only [Array.toList_append]
   rw [List.take_append_of_le_length (by simp [hr.1, hl, Nat.succ_mul]), List.take_of_length_le (by simp [hr.1, hl, Nat.succ_mul])]
 cases A with
 | none =>
  obtain rfl : m = 0 := hA rfl
  obtain rfl : xs = [] := List.eq_nil_of_length_eq_zero (by simpa using hr.1)
  have hrun := run_append_nil (P := P) w t ty e i z ht hi hz a 1 c news oM hnews oM oM oM
  refine ⟨_, _, hrun, ?_, ((Below.refl _ _).drew).alloc (Nat.le_refl _) _, by simp⟩
  have h := hown (grownCap w 1 0 e) (Builtin.zeroCells z.cells (grownCap w 1 0 e - 1)) (grownCap_ge w 1 0 e) (grownCap_le_maxLen w 1 0 e (by simp only [maxLen]; omega)) (by rw [size_zeroCells, hzs])
  simpa using h
 | some b =>
  have holds : ∀ j u, xs[j]? = some u → w.cell? (b.add j) = some u := by
   intro j u hu
   have hm : 0 < m := by
    rcases Nat.eq_zero_or_pos m with h0 | h0
    ·subst h0
     obtain rfl : xs = [] := List.eq_nil_of_length_eq_zero (by simpa using hr.1)
     simp at hu
    ·exact h0
   obtain ⟨b', off, e', _, hc⟩ := hr.2 hm
   injection e' with e'
   subst e'
   rw [Go.WideShapes.add_plain]
   exact hc j u hu
  have hrun := run_append_grow (P := P) w t ty e i z ht hi hz b m m xs hr.1 holds a 1 c news oM hnews oM oM (growslice_fits oM hbytes)
  refine ⟨_, _, hrun, hown _ _ (grownCap_ge w (m + 1) m e) (grownCap_le_maxLen w (m + 1) m e h63) (by rw [size_zeroCells, hzs]), ((Below.refl _ _).drew).alloc (Nat.le_refl _) _, by simp⟩
theorem wp_append_one {P : Program} {o : Oper} {a : Act} {w : World} {K : Act → World → Prop} {Q : Exit → Act → World → Prop} (s x : Operand) (t : TypeId)
  (ho : o.op = .call { callee := .builtin .append, args := #[s, x], argTypes := #[t, t] })
  (e : TypeId) (i : TypeInfo) (z : Value) (size bytes : Nat) (ht : P.underlying t = some (.slice e)) (hi : P.info? e = some i) (hz : i.zero = some z)
  (hsize : i.size = size) (hby : i.bytes = bytes) (hzs : z.cells.size = size) (B : Nat) (A : Option Addr) (m : Nat) (xs : List Value) (hs : a.eval s = .slice A m m) (hr : Rd w B size A m xs) (hA : A = none → m = 0)
  (ad : Addr) (c : Nat) (news : List Value) (hx : a.eval x = .slice (some ad) 1 c) (hl : news.length = size) (hnews : ∀ j u, news[j]? = some u → w.cell? (ad.add j) = some u)
  (h63 : m + 1 ≤ maxLen) (hbytes : (m + 1) * bytes ≤ 140737488355328)
  (h : ∀ cap' w', Hid (w'.ownsRow w.heap.size e size (.slice (some ⟨w.heap.size, 0, none⟩) (m + 1) cap') (m + 1) (xs ++ news)) → Below w.heap.size w w' → w.heap.size < w'.heap.size → K (a.put o.dst (.slice (some ⟨w.heap.size, 0, none⟩) (m + 1) cap')) w') :
  Oper.wp P o a w K Q := by
 obtain ⟨cap', w', hrun, h1, h2, h3⟩ := run_append_one (P := P) w t o.type e i z size bytes ht hi hz hsize hby hzs B A m xs hr hA ad c news hl hnews h63 hbytes
 unfold Oper.wp
 simp [execOp, ho, resolve, invoke, builtin, hs, hx, hrun, Result.andThen]
 exact h cap' w' h1 h2 h3
theorem wp_append_own {P : Program} {o : Oper} {a : Act} {w : World} {K : Act → World → Prop} {Q : Exit → Act → World → Prop} (s x : Operand) (t : TypeId)
  (ho : o.op = .call { callee := .builtin .append, args := #[s, x], argTypes := #[t, t] })
  (base : Nat) (e : TypeId) (i : TypeInfo) (z : Value) (size bytes : Nat) (ht : P.underlying t = some (.slice e)) (hi : P.info? e = some i) (hz : i.zero = some z)
  (hsize : i.size = size) (hby : i.bytes = bytes) (hzs : z.cells.size = size) (hsz : 0 < size)
  (v : Value) (n : Nat) (xs : List Value) (hs : a.eval s = v) (hown : w.ownsRow base e size v n xs)
  (ad : Addr) (c : Nat) (news : List Value) (hx : a.eval x = .slice (some ad) 1 c) (hl : news.length = size) (hnews : ∀ j u, news[j]? = some u → w.cell? (ad.add j) = some u) (h1 : ∀ u ∈ news, u.oneCell' = true)
  (h63 : n + 1 ≤ maxLen) (hbytes : (n + 1) * bytes ≤ 140737488355328) (hbase : base ≤ w.heap.size) (B : Nat) (w0 : World) (hb : Below B w0 w) (hB : B ≤ base)
  (h : ∀ v' w', Hid (w'.ownsRow base e size v' (n + 1) (xs ++ news)) → Below B w0 w' → w.heap.size ≤ w'.heap.size → Hid (∀ b, b < w.heap.size → v.ownBlock ≠ some b → v'.ownBlock ≠ some b ∧ w'.heap[b]? = w.heap[b]?) → K (a.put o.dst v') w') :
  Oper.wp P o a w K Q := by
 have hsrc : 0 < 1 → ∃ a, some ad = some a ∧ ∀ j u, news[j]? = some u → w.cell? (a.add j) = some u := fun _ => ⟨ad, rfl, hnews⟩
 have hl1 : news.length = 1 * size := by omega
 obtain ⟨v', w', hr', h2, h3⟩ := run_append_any (P := P) w base t o.type e i z size bytes ht hi hz hsize hby hzs hsz v n xs hown (some ad) 1 c news hl1 hsrc h1 h63 hbytes hbase
 have h5 := run_append_block (P := P) w base t o.type e i z size bytes ht hi hz hsize hby v n xs hown (some ad) 1 c news hl1 hsrc h1 h63 hbytes v' w' hr'
 unfold Oper.wp execOp
 simp only [ho, resolve, invoke, builtin, Sem.run_bind, Sem.run_pure, Result.andThen_ok, List.map_toArray, List.map_cons, List.map_nil, hs, hx, hr']
 refine h v' w' h2 (below_grown hb h3 hown hB (Nat.le_trans hB hbase)) h3.size (fun b hbl hne => ⟨?_, h3.block b hbl (fun e => hne e.symm)⟩)
 rcases h5 with h5 | h5
 ·rw [h5]; exact hne
 ·rw [h5]; intro e; injection e with e; omega
theorem Rd.stay {w w' : World} {B size n : Nat} {A : Option Addr} {xs : List Value} (h : Rd w B size A n xs) (hs : 0 < n → ∀ b o, A = some ⟨b, o, none⟩ → b < B → w'.heap[b]? = w.heap[b]?) : Rd w' B size A n xs := by
 refine ⟨h.1, fun hn => ?_⟩
 obtain ⟨b, off, e, hb, hc⟩ := h.2 hn
 refine ⟨b, off, e, hb, fun j u hu => ?_⟩
 rw [← hc j u hu]
 simp only [World.cell?, hs hn b off e hb]
end Go.Proofs.YtnnmenmifphadaaGreatDoor
