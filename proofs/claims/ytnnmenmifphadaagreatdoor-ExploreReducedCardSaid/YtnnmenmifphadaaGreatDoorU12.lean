/- The builtin copy for elements of any number of cells. No program. -/
import Derived.Laws.CopyOwn
import Derived.Test.YtnnmenmifphadaaGreatDoorU05
set_option linter.unusedSimpArgs false
set_option linter.unusedVariables false
namespace Go.Proofs.YtnnmenmifphadaaGreatDoor
open Go.RowKit
theorem run_copy_rows (P : Program) (w : World) (dT sT ty elem : TypeId) (i : TypeInfo) (size : Nat) (g o dLen dCap : Nat) (a : Addr) (sLen sCap : Nat) (cur : Array Value) (t : TypeId) (cs : List Value) (m : Nat)
  (hu : P.underlying dT = some (.slice elem)) (hi : P.info? elem = some i) (hs : i.size = size)
  (hg : w.heap[g]? = some (.cells cur t (0, 0))) (hm : m = Nat.min sLen dLen) (hn : cs.length = m * size)
  (hsrc : ∀ j v, cs[j]? = some v → w.cell? (a.add j) = some v) (hfit : o + cs.length ≤ cur.size) (h1 : ∀ v ∈ cs, v.oneCell' = true) :
  (Builtin.copy_ #[dT, sT] ty #[.slice (some ⟨g, o, none⟩) dLen dCap, .slice (some a) sLen sCap]).run P w =
   .ok (goInt m) (w.setRow g (cur.toList.take o ++ cs ++ cur.toList.drop (o + cs.length)).toArray) := by
 have hl := run_firstCells_some (P := P) (w := w) size m a sLen sCap cs hn hsrc
 have hst := run_storeCells_at P g o t cs 0 cur w hg (by simpa using hfit) h1
 simp [Builtin.copy_, run_underlying hu, Builtin.lenOf, sizeOf, typeInfo, hi, hs, ← hm, hl, hst]
theorem run_copy_zero (P : Program) (w : World) (dT sT ty elem : TypeId) (i : TypeInfo) (dp sp : Option Addr) (dLen dCap sLen sCap : Nat)
  (hu : P.underlying dT = some (.slice elem)) (hi : P.info? elem = some i) (hn : Nat.min sLen dLen = 0) :
  (Builtin.copy_ #[dT, sT] ty #[.slice dp dLen dCap, .slice sp sLen sCap]).run P w = .ok (goInt 0) w := by
 have hl : (Builtin.firstCells i.size 0 (.slice sp sLen sCap)).run P w = .ok #[] w := by
  cases sp with
  | none => simp [Builtin.firstCells]
  | some a => exact run_firstCells_some (P := P) (w := w) i.size 0 a sLen sCap [] sM sM
 cases dp <;> simp [Builtin.copy_, run_underlying hu, Builtin.lenOf, sizeOf, typeInfo, hi, hn, hl, storeCells]
theorem run_copy_any (P : Program) (w : World) (dT sT ty elem : TypeId) (i : TypeInfo) (size : Nat) (dp sp : Option Addr) (g o dLen dCap sLen sCap : Nat) (cur : List Value) (t : TypeId) (cs : List Value) (m : Nat)
  (hu : P.underlying dT = some (.slice elem)) (hi : P.info? elem = some i) (hs : i.size = size)
  (hg : w.heap[g]? = some (.cells cur.toArray t (0, 0))) (hm : m = Nat.min sLen dLen) (hn : cs.length = m * size)
  (hpos : 0 < m → dp = some ⟨g, o, none⟩ ∧ ∃ a, sp = some a ∧ ∀ j v, cs[j]? = some v → w.cell? (a.add j) = some v) (hfit : o + cs.length ≤ cur.length) (h1 : ∀ v ∈ cs, v.oneCell' = true) (B : Nat) (w0 : World) (hb : Below B w0 w) (hBg : B ≤ g) :
  ∃ w', (Builtin.copy_ #[dT, sT] ty #[.slice dp dLen dCap, .slice sp sLen sCap]).run P w = .ok (goInt m) w' ∧ w'.heap[g]? = some (.cells (splice cur o cs).toArray t (0, 0)) ∧ Below B w0 w' ∧ w'.heap.size = w.heap.size ∧
   (∀ k, k ≠ g → w'.heap[k]? = w.heap[k]?) := by
 by_cases h0 : m = 0
 ·subst h0
  obtain rfl : cs = [] := List.eq_nil_of_length_eq_zero (by simpa using hn)
  exact ⟨w, run_copy_zero P w dT sT ty elem i dp sp dLen dCap sLen sCap hu hi hm.symm, by simpa [splice] using hg, hb, rfl, fun _ _ => rfl⟩
 ·obtain ⟨rfl, a, rfl, hsrc⟩ := hpos oM
  refine ⟨_, run_copy_rows P w dT sT ty elem i size g o dLen dCap a sLen sCap cur.toArray t cs m hu hi hs hg hm hn hsrc (by simpa using hfit) h1, ?_, below_setRow hb hBg _, by simp [World.setRow], fun k hk => setRow_other w g k _ (fun e => hk oM)⟩
  simpa [splice] using setRow_heap w g _ _ t _ hg
theorem wpList_copy_rows {P : Program} {w : World} {ops : Array Oper} {rest : List Oper} {o : Oper} {a : Act} {Q : Exit → Act → World → Prop} (hgd : o.guard = none) (d s : Operand) (dT sT : TypeId)
  (ho : o.op = .call { callee := .builtin .copy, args := #[d, s], argTypes := #[dT, sT] }) (elem : TypeId) (hu : P.underlying dT = some (.slice elem)) (i : TypeInfo) (hi : P.info? elem = some i) (size : Nat) (hsz : i.size = size)
  (dp sp : Option Addr) (dLen dCap sLen sCap : Nat) (hd : a.eval d = .slice dp dLen dCap) (hs : a.eval s = .slice sp sLen sCap)
  (g off : Nat) (cur : List Value) (t : TypeId) (hg : w.heap[g]? = some (.cells cur.toArray t (0, 0))) (cs : List Value) (m : Nat) (hm : m = Nat.min sLen dLen) (hn : cs.length = m * size)
  (hpos : 0 < m → dp = some ⟨g, off, none⟩ ∧ ∃ ad, sp = some ad ∧ ∀ j v, cs[j]? = some v → w.cell? (ad.add j) = some v)
  (hfit : off + cs.length ≤ cur.length) (h1 : ∀ v ∈ cs, v.oneCell' = true) (B : Nat) (w0 : World) (hb : Below B w0 w) (hBg : B ≤ g)
  (h : ∀ w', Hid (w'.heap[g]? = some (.cells (splice cur off cs).toArray t (0, 0))) → Below B w0 w' → wpList P ops Q rest (a.put o.dst (goInt m)) w') :
  wpList P ops Q (o :: rest) a w := by
 refine wpList_plain hgd fun K hK => ?_
 obtain ⟨w', hrun, h2, h3, _⟩ := run_copy_any P w dT sT o.type elem i size dp sp g off dLen dCap sLen sCap cur t cs m hu hi hsz hg hm hn hpos hfit h1 B w0 hb hBg
 unfold Oper.wp
 simp [execOp, ho, resolve, invoke, builtin, hd, hs, hrun, Result.andThen]
 exact hK _ _ (h w' h2 h3)
theorem Rd.src {w : World} {B size n : Nat} {A : Option Addr} {xs : List Value} (hr : Rd w B size A n xs) (m : Nat) (hm : m ≤ n) :
  0 < m → ∃ ad, A = some ad ∧ ∀ j v, (xs.take (m * size))[j]? = some v → w.cell? (ad.add j) = some v := by
 intro h0
 obtain ⟨b, off, e, _, hc⟩ := hr.2 oM
 refine ⟨_, e, fun j v hv => ?_⟩
 rw [List.getElem?_take] at hv
 split at hv
 ·have e : (⟨b, off, none⟩ : Addr).add j = ⟨b, off + j, none⟩ := by unfold Addr.add; split <;> simp_all
  rw [e]
  exact hc j v hv
 ·cases hv
theorem row_of_own {w : World} {base size n : Nat} {e : TypeId} {g : Nat} {xs : List Value} (h : w.ownsRow base e size (.slice (some ⟨g, 0, none⟩) n n) n xs) : w.heap[g]? = some (.cells xs.toArray e (0, 0)) ∧ base ≤ g := by
 obtain ⟨h1, h2⟩ := h
 rcases h2 with ⟨h3, _⟩ | ⟨g', cap', cur, h3, hg, hh, _, _, h4, h5⟩
 ·cases h3
 ·injection h3 with h3 h6 h7
  injection h3 with h3
  injection h3 with h3
  subst h3 h7
  refine ⟨?_, hg⟩
  rw [hh, ← h5, List.take_of_length_le (by simp [h4])]
end Go.Proofs.YtnnmenmifphadaaGreatDoor
