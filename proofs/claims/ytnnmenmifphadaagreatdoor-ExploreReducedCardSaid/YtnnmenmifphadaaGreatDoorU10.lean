/- The builtin append onto a slice without room ('append(slices.Clip(s), x)'), nil let in: a new row. No program. -/
import Derived.Deep.RegionHeld3
import Derived.Test.YtnnmenmifphadaaGreatDoorU05
set_option linter.unusedSimpArgs false
set_option linter.unusedVariables false
namespace Go.Proofs.YtnnmenmifphadaaGreatDoor
open Go.RowKit
theorem run_append_new {P : Program} (w : World) (t ty e : TypeId) (i : TypeInfo) (z : Value) (size bytes : Nat) (ht : P.underlying t = some (.slice e)) (hi : P.info? e = some i) (hz : i.zero = some z)
  (hsize : i.size = size) (hby : i.bytes = bytes) (B : Nat) (A : Option Addr) (m : Nat) (xs : List Value) (hr : Rd w B size A m xs) (hA : A = none → m = 0)
  (a : Addr) (c : Nat) (news : List Value) (hl : news.length = size) (hnews : ∀ j u, news[j]? = some u → w.cell? (a.add j) = some u)
  (h63 : m + 1 ≤ maxLen) (hbytes : (m + 1) * bytes ≤ 140737488355328) :
  ∃ cap' w', (Builtin.append_ #[t, t] ty #[.slice A m m, .slice (some a) 1 c]).run P w = .ok (.slice (some ⟨w.heap.size, 0, none⟩) (m + 1) cap') w' ∧ m + 1 ≤ cap' ∧ Rd w' w'.heap.size size (some ⟨w.heap.size, 0, none⟩) (m + 1) (xs ++ news) ∧ Below w.heap.size w w' := by
 subst hsize hby
 have hsmall : m + 1 ≤ 9223372036854775807 := by simp only [maxLen] at h63; omega
 have hrd : ∀ (zs : Array Value), Rd (w.drew.alloc (.cells (xs.toArray ++ news.toArray ++ zs) e)) (w.drew.alloc (.cells (xs.toArray ++ news.toArray ++ zs) e)).heap.size i.size (some ⟨w.heap.size, 0, none⟩) (m + 1) (xs ++ news) := by
  intro zs
  refine ⟨by rw [List.length_append, hr.1, hl, Nat.succ_mul], fun _ => ⟨w.heap.size, 0, rfl, by simp, fun j u hu => ?_⟩⟩
  have hj := (List.getElem?_eq_some_iff.1 hu).1
  rw [Nat.zero_add]
  have hh : (w.drew.alloc (.cells (xs.toArray ++ news.toArray ++ zs) e)).heap[w.heap.size]? = some (.cells (xs.toArray ++ news.toArray ++ zs) e (0, 0)) := heap_alloc_new w.drew _
  have : (xs.toArray ++ news.toArray ++ zs)[j]? = some u := by
   rw [← Array.getElem?_toList]
   simp only [Array.toList_append]
   rw [List.getElem?_append_left (by simpa using hj)]
   exact hu
  generalize xs.toArray ++ news.toArray ++ zs = cs at hh this ⊢
  simp only [World.cell?, hh]
  exact this
 cases A with
 | none =>
  obtain rfl : m = 0 := hA rfl
  obtain rfl : xs = [] := List.eq_nil_of_length_eq_zero (by simpa using hr.1)
  have hrun := run_append_nil (P := P) w t ty e i z ht hi hz a 1 c news (by omega) hnews (by omega) (by omega) (by omega)
  refine ⟨_, _, hrun, grownCap_ge w 1 0 e, ?_, ((Below.refl _ _).drew).alloc (Nat.le_refl _) _⟩
  have h := hrd (Builtin.zeroCells z.cells (grownCap w 1 0 e - 1))
  simpa using h
 | some b =>
  have holds : ∀ j u, xs[j]? = some u → w.cell? (b.add j) = some u := by
   intro j u hu
   have hm : 0 < m := by
    rcases Nat.eq_zero_or_pos m with h0 | h0
    ·subst h0
     obtain rfl : xs = [] := List.eq_nil_of_length_eq_zero (by simpa using hr.1)
     simp at hu
    ·exact h0
   obtain ⟨b', off, e', _, hc⟩ := hr.2 hm
   injection e' with e'
   subst e'
   rw [Go.WideShapes.add_plain]
   exact hc j u hu
  have hrun := run_append_grow (P := P) w t ty e i z ht hi hz b m m xs hr.1 holds a 1 c news (by omega) hnews (by omega) (by omega) (growslice_fits (by omega) hbytes)
  refine ⟨_, _, hrun, grownCap_ge w (m + 1) m e, hrd _, ((Below.refl _ _).drew).alloc (Nat.le_refl _) _⟩
theorem step_append_new {P : Program} {ops : Array Oper} {o : Oper} {a : Act} {w : World} {K : Act → World → Prop} {Q : Exit → Act → World → Prop} {E : Prop} (hgd : o.guard = none) (s x : Operand) (t : TypeId)
  (ho : o.op = .call { callee := .builtin .append, args := #[s, x], argTypes := #[t, t] })
  (e : TypeId) (i : TypeInfo) (z : Value) (size bytes : Nat) (ht : P.underlying t = some (.slice e)) (hi : P.info? e = some i) (hz : i.zero = some z)
  (hsize : i.size = size) (hby : i.bytes = bytes) (B : Nat) (A : Option Addr) (m : Nat) (xs : List Value) (hs : a.eval s = .slice A m m) (hr : Rd w B size A m xs) (hA : A = none → m = 0)
  (ad : Addr) (c : Nat) (news : List Value) (hx : a.eval x = .slice (some ad) 1 c) (hl : news.length = size) (hnews : ∀ j u, news[j]? = some u → w.cell? (ad.add j) = some u)
  (h63 : m + 1 ≤ maxLen) (hbytes : (m + 1) * bytes ≤ 140737488355328)
  (h : ∀ cap' w', Hid (m + 1 ≤ cap') → Hid (Rd w' w'.heap.size size (some ⟨w.heap.size, 0, none⟩) (m + 1) (xs ++ news)) → Below w.heap.size w w' → w.heap.size < w'.heap.size → K (a.put o.dst (.slice (some ⟨w.heap.size, 0, none⟩) (m + 1) cap')) w') :
  if Region.wanted o (yielded ops a.tmps) = true then Oper.wp P o a w K Q else E := by
 have hw : Region.wanted o (yielded ops a.tmps) = true := by simp [Region.wanted, hgd]
 rw [if_pos hw]
 obtain ⟨cap', w', hrun, h1, h2, h3⟩ := run_append_new (P := P) w t o.type e i z size bytes ht hi hz hsize hby B A m xs hr hA ad c news hl hnews h63 hbytes
 unfold Oper.wp
 simp [execOp, ho, resolve, invoke, builtin, hs, hx, hrun, Result.andThen]
 refine h cap' w' h1 h2 h3 ?_
 obtain ⟨b, off, e, hb, _⟩ := h2.2 oM
 injection e with e
 injection e with e _
 omega
end Go.Proofs.YtnnmenmifphadaaGreatDoor
