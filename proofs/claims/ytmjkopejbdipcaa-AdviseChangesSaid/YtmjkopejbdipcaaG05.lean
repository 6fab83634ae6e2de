/- The builtin copy for elements of any number of cells. No program. -/
import Derived.Laws.CopyRow
import Derived.Laws.CopyOwn
import Derived.Laws.IdiomCopy
import Derived.Laws.Append
import Derived.OwnWalk
import Derived.Deep.RegionHeld
import Derived.Test.YtmjkopejbdipcaaG00
import Derived.Test.YtmjkopejbdipcaaG04
namespace Go.Proofs.Ytmjkopejbdipcaa
set_option linter.unusedSimpArgs false
set_option linter.unusedVariables false
open Go.RowKit

theorem run_copy_rows (P : Program) (w : World) (dT sT ty elem : TypeId) (i : TypeInfo) (size : Nat) (g o dLen dCap : Nat) (a : Addr) (sLen sCap : Nat) (cur : Array Value) (t : TypeId) (cs : List Value) (m : Nat)
    (hu : P.underlying dT = some (.slice elem)) (hi : P.info? elem = some i) (hs : i.size = size)
    (hg : w.heap[g]? = some (.cells cur t (0, 0))) (hm : m = Nat.min sLen dLen) (hn : cs.length = m * size)
    (hsrc : ∀ j v, cs[j]? = some v → w.cell? (a.add j) = some v) (hfit : o + cs.length ≤ cur.size) (h1 : ∀ v ∈ cs, v.oneCell' = true) :
    (Builtin.copy_ #[dT, sT] ty #[.slice (some ⟨g, o, none⟩) dLen dCap, .slice (some a) sLen sCap]).run P w =
      .ok (goInt m) (w.setRow g (cur.toList.take o ++ cs ++ cur.toList.drop (o + cs.length)).toArray) := by
  have hl := run_firstCells_some (P := P) (w := w) size m a sLen sCap cs hn hsrc
  have hst := run_storeCells_at P g o t cs 0 cur w hg (by simpa using hfit) h1
  simp [Builtin.copy_, run_underlying hu, Builtin.lenOf, sizeOf, typeInfo, hi, hs, ← hm, hl, hst]

theorem run_copy_zero (P : Program) (w : World) (dT sT ty elem : TypeId) (i : TypeInfo) (dp sp : Option Addr) (dLen dCap sLen sCap : Nat)
    (hu : P.underlying dT = some (.slice elem)) (hi : P.info? elem = some i) (hn : Nat.min sLen dLen = 0) :
    (Builtin.copy_ #[dT, sT] ty #[.slice dp dLen dCap, .slice sp sLen sCap]).run P w = .ok (goInt 0) w := by
  have hl : (Builtin.firstCells i.size 0 (.slice sp sLen sCap)).run P w = .ok #[] w := by
    cases sp with
    | none => simp [Builtin.firstCells]
    | some a => exact run_firstCells_some (P := P) (w := w) i.size 0 a sLen sCap [] (by simp) (by simp)
  cases dp <;> simp [Builtin.copy_, run_underlying hu, Builtin.lenOf, sizeOf, typeInfo, hi, hn, hl, storeCells]

/-- The run of a copy into a row of the call's own; nothing to copy is let in. -/
theorem run_copy_any (P : Program) (w : World) (dT sT ty elem : TypeId) (i : TypeInfo) (size : Nat) (dp sp : Option Addr) (g o dLen dCap sLen sCap : Nat) (cur : List Value) (t : TypeId) (cs : List Value) (m : Nat)
    (hu : P.underlying dT = some (.slice elem)) (hi : P.info? elem = some i) (hs : i.size = size)
    (hg : w.heap[g]? = some (.cells cur.toArray t (0, 0))) (hm : m = Nat.min sLen dLen) (hn : cs.length = m * size)
    (hpos : 0 < m → dp = some ⟨g, o, none⟩ ∧ ∃ a, sp = some a ∧ ∀ j v, cs[j]? = some v → w.cell? (a.add j) = some v) (hfit : o + cs.length ≤ cur.length) (h1 : ∀ v ∈ cs, v.oneCell' = true) (B : Nat) (w0 : World) (hb : Below B w0 w) (hBg : B ≤ g) :
    ∃ w', (Builtin.copy_ #[dT, sT] ty #[.slice dp dLen dCap, .slice sp sLen sCap]).run P w = .ok (goInt m) w' ∧ w'.heap[g]? = some (.cells (splice cur o cs).toArray t (0, 0)) ∧ Below B w0 w' ∧ w'.heap.size = w.heap.size ∧
      (∀ k, k ≠ g → w'.heap[k]? = w.heap[k]?) := by
  by_cases h0 : m = 0
  · subst h0
    obtain rfl : cs = [] := List.eq_nil_of_length_eq_zero (by simpa using hn)
    exact ⟨w, run_copy_zero P w dT sT ty elem i dp sp dLen dCap sLen sCap hu hi hm.symm, by simpa [splice] using hg, hb, rfl, fun _ _ => rfl⟩
  · obtain ⟨rfl, a, rfl, hsrc⟩ := hpos (by omega)
    refine ⟨_, run_copy_rows P w dT sT ty elem i size g o dLen dCap a sLen sCap cur.toArray t cs m hu hi hs hg hm hn hsrc (by simpa using hfit) h1, ?_, below_setRow hb hBg _, by simp [World.setRow], fun k hk => setRow_other w g k _ (fun e => hk (by omega))⟩
    simpa [splice] using setRow_heap w g _ _ t _ hg

theorem wpList_copy_rows {P : Program} {w : World} {ops : Array Oper} {rest : List Oper} {o : Oper} {a : Act} {Q : Exit → Act → World → Prop} (hgd : o.guard = none) (d s : Operand) (dT sT : TypeId)
    (ho : o.op = .call { callee := .builtin .copy, args := #[d, s], argTypes := #[dT, sT] }) (elem : TypeId) (hu : P.underlying dT = some (.slice elem)) (i : TypeInfo) (hi : P.info? elem = some i) (size : Nat) (hsz : i.size = size)
    (dp sp : Option Addr) (dLen dCap sLen sCap : Nat) (hd : a.eval d = .slice dp dLen dCap) (hs : a.eval s = .slice sp sLen sCap)
    (g off : Nat) (cur : List Value) (t : TypeId) (hg : w.heap[g]? = some (.cells cur.toArray t (0, 0))) (cs : List Value) (m : Nat) (hm : m = Nat.min sLen dLen) (hn : cs.length = m * size)
    (hpos : 0 < m → dp = some ⟨g, off, none⟩ ∧ ∃ ad, sp = some ad ∧ ∀ j v, cs[j]? = some v → w.cell? (ad.add j) = some v)
    (hfit : off + cs.length ≤ cur.length) (h1 : ∀ v ∈ cs, v.oneCell' = true) (B : Nat) (w0 : World) (hb : Below B w0 w) (hBg : B ≤ g)
    (h : ∀ w', Hid (w'.heap[g]? = some (.cells (splice cur off cs).toArray t (0, 0))) → Below B w0 w' → wpList P ops Q rest (a.put o.dst (goInt m)) w') :
    wpList P ops Q (o :: rest) a w := by
  refine wpList_plain hgd fun K hK => ?_
  obtain ⟨w', hrun, h2, h3, _⟩ := run_copy_any P w dT sT o.type elem i size dp sp g off dLen dCap sLen sCap cur t cs m hu hi hsz hg hm hn hpos hfit h1 B w0 hb hBg
  unfold Oper.wp
  simp [execOp, ho, resolve, invoke, builtin, hd, hs, hrun, Result.andThen]
  exact hK _ _ (h w' h2 h3)

/-- The same as one step of a region that draws its order. -/
theorem step_copy_rows {P : Program} {ops : Array Oper} {o : Oper} {a : Act} {w : World} {K : Act → World → Prop} {Q : Exit → Act → World → Prop} {E : Prop} (hgd : o.guard = none) (d s : Operand) (dT sT : TypeId)
    (ho : o.op = .call { callee := .builtin .copy, args := #[d, s], argTypes := #[dT, sT] }) (elem : TypeId) (hu : P.underlying dT = some (.slice elem)) (i : TypeInfo) (hi : P.info? elem = some i) (size : Nat) (hsz : i.size = size)
    (dp sp : Option Addr) (dLen dCap sLen sCap : Nat) (hd : a.eval d = .slice dp dLen dCap) (hs : a.eval s = .slice sp sLen sCap)
    (g off : Nat) (cur : List Value) (t : TypeId) (hg : w.heap[g]? = some (.cells cur.toArray t (0, 0))) (cs : List Value) (m : Nat) (hm : m = Nat.min sLen dLen) (hn : cs.length = m * size)
    (hpos : 0 < m → dp = some ⟨g, off, none⟩ ∧ ∃ ad, sp = some ad ∧ ∀ j v, cs[j]? = some v → w.cell? (ad.add j) = some v)
    (hfit : off + cs.length ≤ cur.length) (h1 : ∀ v ∈ cs, v.oneCell' = true) (B : Nat) (w0 : World) (hb : Below B w0 w) (hBg : B ≤ g)
    (h : ∀ w', Hid (w'.heap[g]? = some (.cells (splice cur off cs).toArray t (0, 0))) → Below B w0 w' → K (a.put o.dst (goInt m)) w') :
    if Region.wanted o (yielded ops a.tmps) = true then Oper.wp P o a w K Q else E := by
  have hw : Region.wanted o (yielded ops a.tmps) = true := by simp [Region.wanted, hgd]
  rw [if_pos hw]
  obtain ⟨w', hrun, h2, h3, _⟩ := run_copy_any P w dT sT o.type elem i size dp sp g off dLen dCap sLen sCap cur t cs m hu hi hsz hg hm hn hpos hfit h1 B w0 hb hBg
  unfold Oper.wp
  simp [execOp, ho, resolve, invoke, builtin, hd, hs, hrun, Result.andThen]
  exact h w' h2 h3

/-- A slice that can be read, as a source of a copy. -/
theorem Rd.src {w : World} {B size n : Nat} {A : Option Addr} {xs : List Value} (hr : Rd w B size A n xs) (m : Nat) (hm : m ≤ n) :
    0 < m → ∃ ad, A = some ad ∧ ∀ j v, (xs.take (m * size))[j]? = some v → w.cell? (ad.add j) = some v := by
  intro h0
  obtain ⟨b, off, e, _, hc⟩ := hr.2 (by omega)
  refine ⟨_, e, fun j v hv => ?_⟩
  rw [List.getElem?_take] at hv
  split at hv
  · have e : (⟨b, off, none⟩ : Addr).add j = ⟨b, off + j, none⟩ := by unfold Addr.add; split <;> simp_all
    rw [e]
    exact hc j v hv
  · cases hv

/-- A row of the call's own can be read. -/
theorem Rd.of_row {w : World} {g size n cap : Nat} {t : TypeId} {xs : List Value} (hg : w.heap[g]? = some (.cells xs.toArray t (0, 0))) (hn : n * size ≤ xs.length) (_hc : n ≤ cap) : Rd w w.heap.size size (some ⟨g, 0, none⟩) n (xs.take (n * size)) := by
  refine ⟨by simp; omega, fun _ => ⟨g, 0, rfl, (Array.getElem?_eq_some_iff.1 hg).1, fun j u hu => ?_⟩⟩
  rw [List.getElem?_take] at hu
  split at hu
  · simp [World.cell?, hg, hu]
  · cases hu
theorem row_of_own {w : World} {base size n : Nat} {e : TypeId} {g : Nat} {xs : List Value} (h : w.ownsRow base e size (.slice (some ⟨g, 0, none⟩) n n) n xs) : w.heap[g]? = some (.cells xs.toArray e (0, 0)) ∧ base ≤ g := by
  obtain ⟨h1, h2⟩ := h
  rcases h2 with ⟨h3, _⟩ | ⟨g', cap', cur, h3, hg, hh, _, _, h4, h5⟩
  · cases h3
  · injection h3 with h3 h6 h7
    injection h3 with h3
    injection h3 with h3
    subst h3 h7
    refine ⟨?_, hg⟩
    rw [hh, ← h5, List.take_of_length_le (by simp [h4])]
theorem below_row {B : Nat} {a w w' : World} (h : Below B a w) (hg : w.grownBy w' none) (hB : B ≤ w.heap.size) : Below B a w' := h.grown hg hB (fun _ h => by cases h)
end Go.Proofs.Ytmjkopejbdipcaa
namespace Go.Proofs.Ytmjkopejbdipcaa
set_option linter.unusedSimpArgs false
set_option linter.unusedVariables false
open Go.RowKit Go.Maps
theorem info_view : (Try.prog.info? 131).map (fun i => (i.zero, i.size, i.bytes)) = some (some (.agg #[.map none]), 1, 8) := by kernel_rfl
theorem Rd.set {α : Type} {w : World} {B b n k : Nat} {g : α → Value} {l : List α} (h : Rd w B 1 (some ⟨b, 0, none⟩) n (l.map g)) (hk : k < n) (a : α) : Rd (w.setCell ⟨b, k, none⟩ (g a)) B 1 (some ⟨b, 0, none⟩) n ((l.set k a).map g) := by
  obtain ⟨h1, h2⟩ := h
  rw [List.length_map] at h1
  refine ⟨by rw [List.length_map, List.length_set]; exact h1, fun hn => ?_⟩
  obtain ⟨b', off, e, hB, hc⟩ := h2 hn
  injection e with e
  injection e with e1 e2
  subst e1 e2
  refine ⟨b, 0, rfl, hB, fun j u hu => ?_⟩
  rw [List.getElem?_map] at hu
  rw [Nat.zero_add]
  by_cases hj : j = k
  · subst hj
    rw [List.getElem?_set_self (by omega)] at hu
    injection hu with hu
    subst hu
    obtain ⟨x, hx⟩ : ∃ x, l[j]? = some x := ⟨_, List.getElem?_eq_getElem (by omega)⟩
    have hold := hc j (g x) (by rw [List.getElem?_map, hx]; rfl)
    rw [Nat.zero_add] at hold
    simp [go_sem, hold]
  · rw [List.getElem?_set_ne (fun e => hj (by omega))] at hu
    rw [World.cell?_setCell_other _ _ _ _ (by intro e; injection e with _ e; exact hj e.symm)]
    have := hc j u (by rw [List.getElem?_map]; exact hu)
    rwa [Nat.zero_add] at this
theorem splice_whole {α : Type} (cur cs : List α) (h : cs.length = cur.length) : splice cur 0 cs = cs := by simp [splice, h]
theorem rd_of_row {w : World} {g n : Nat} {xs : List Value} {t : TypeId} (h : w.heap[g]? = some (.cells xs.toArray t (0, 0))) (hl : xs.length = n * 1) : Rd w w.heap.size 1 (some ⟨g, 0, none⟩) n xs :=
  ⟨hl, fun _ => ⟨g, 0, rfl, (Array.getElem?_eq_some_iff.1 h).1, fun j u hu => by
    rw [Nat.zero_add]
    simp only [World.cell?, h]
    simpa using hu⟩⟩
theorem frozen_of_row {w : World} {g : Nat} {xs : List Value} {t : TypeId} (h : w.heap[g]? = some (.cells xs.toArray t (0, 0))) (o : Nat) : w.frozen? ⟨g, o, none⟩ = false := by
  simp [World.frozen?, h]
theorem cell_of_row {w : World} {g k : Nat} {xs : List Value} {t : TypeId} (h : w.heap[g]? = some (.cells xs.toArray t (0, 0))) (hk : k < xs.length) : ∃ u, w.cell? ⟨g, k, none⟩ = some u := ⟨xs[k], by simp [World.cell?, h, hk]⟩
/-- A memory with another view of a thread. -/
def MemV.with (m : MemV) (A : Option Addr) (c t : Nat) (a : VwV) : MemV := ⟨m.pA, m.pc, m.hs, A, c, m.vs.set t a⟩
theorem MemV.with_R {m : MemV} {w w' : World} {g t n : Nat} {a : VwV} (h : m.R w) (hb : Below w.heap.size w w') (hn : m.vs.length = n) (hr : Rd w' w'.heap.size 1 (some ⟨g, 0, none⟩) n ((m.vs.set t a).map vwv)) (ha : a.R m.hs.length w') : (m.with (some ⟨g, 0, none⟩) n t a).R w' := by
  have hF := h.below hb
  have e1 : (m.vs.set t a).length = n := by rw [List.length_set, hn]
  refine ⟨hF.1, ?_⟩
  show (m.vs.set t a).length ≤ n ∧ ((some ⟨g, 0, none⟩ : Option Addr) = none → (m.vs.set t a).length = 0) ∧ Rd w' w'.heap.size 1 (some ⟨g, 0, none⟩) (m.vs.set t a).length ((m.vs.set t a).map vwv) ∧ ∀ x ∈ m.vs.set t a, x.R m.hs.length w'
  rw [e1]
  refine ⟨Nat.le_refl n, (fun e => by cases e), hr, (fun x hx => ?_)⟩
  rcases List.mem_or_eq_of_mem_set hx with hx | rfl
  · exact hF.2.2.2.2 x hx
  · exact ha
theorem MemV.with_rd {m : MemV} {w : World} {g t n : Nat} {a : VwV} (h : (m.with (some ⟨g, 0, none⟩) n t a).R w) (hn : m.vs.length = n) : Rd w w.heap.size 1 (some ⟨g, 0, none⟩) n ((m.vs.set t a).map vwv) := by
  have h1 : Rd w w.heap.size 1 (some ⟨g, 0, none⟩) (m.vs.set t a).length ((m.vs.set t a).map vwv) := h.2.2.2.1
  rwa [List.length_set, hn] at h1
set_option maxHeartbeats 2000000 in
set_option maxRecDepth 100000 in
theorem mem_with (m : MemV) (t : Nat) (a : VwV) (w : World) (hR : m.R w) (ht : t < m.vs.length) (hn : m.vs.length ≤ 1000) (ha : a.R m.hs.length w) : Calls Try.prog 83 #[(.agg #[.slice (m).pA (m).hs.length (m).pc, .slice (m).vA (m).vs.length (m).vc]), .int .i64 ((t : Int) + 1), .agg #[.map a.v]] w fun e w' => ∃ g, e = .returned (.agg #[.slice m.pA m.hs.length m.pc, .slice (some ⟨g, 0, none⟩) m.vs.length m.vs.length]) ∧ w.heap.size ≤ g ∧ (m.with (some ⟨g, 0, none⟩) m.vs.length t a).R w' ∧ Below w.heap.size w w' := by
  obtain ⟨i0, hi, iz0, iz1, iz2⟩ := info_parts info_view
  obtain ⟨pA, pc, hs, vA, vc, vs⟩ := m
  obtain ⟨n, hvn⟩ : ∃ n, n = vs.length := ⟨_, rfl⟩
  simp only at ht hn ha
  have HR := hide hR
  have Ha := hide ha
  obtain ⟨-, hvc, hvA, hrd, -⟩ := hR
  simp only at hvc hvA hrd
  rw [← hvn] at hrd ht hn hvc
  simp only [← hvn]
  have hxl : (vs.map vwv).length = n * 1 := by rw [List.length_map, ← hvn, Nat.mul_one]
  have hx1 : ∀ v ∈ vs.map vwv, v.oneCell' = true := by
    intro v hv
    obtain ⟨x, -, rfl⟩ := List.mem_map.1 hv
    rfl
  have hsrc := Rd.src hrd n (Nat.le_refl _)
  have Hsrc := hide hsrc
  have Hxl := hide hxl
  have Hvn := hide hvn
  have Hrd := hide hrd
  have h0 : (0 : Int) ≤ (t : Int) := by omega
  have h1 : (t : Int) < (n : Int) := by omega
  have hw1 : IntKind.i64.wrap ((t : Int) + 1 - 1) = (t : Int) := by rw [show (t : Int) + 1 - 1 = (t : Int) by omega]; exact IntWalk.i64_in _ (by omega)
  have hw2 : IntKind.i64.wrap (t : Int) = (t : Int) := IntWalk.i64_in _ (by omega)
  clear hrd hsrc hxl hvn ha
  go_enter Try.func83, Try.ntmps83
  go_wp2_with (first
    | (at_make; refine wpList_make_full _ rfl _ _ 28 rfl w.heap.size 131 i0 _ 1 Try.underlying28 hi iz0 iz1 _ _ _ _ n rfl rfl rfl rfl (by rw [iz2]; omega) (by unfold maxLen; omega) (by simp; omega) ?_; intro w1 hown hgr; have hb1 := Below.grown (Below.refl _ _) hgr (Nat.le_refl _) (fun k hk => by cases hk); obtain ⟨hcc1, hff1⟩ := bcell hb1; have hs1 := hb1.size; (try simp at hs1); obtain ⟨hrow, -⟩ := row_of_own hown; have hmz : (madeCells (Value.agg #[Value.map none]).cells (n * 1)).toList.length = n * 1 := hown.1; obtain ⟨cur, hcur⟩ : ∃ cur, cur = (madeCells (Value.agg #[Value.map none]).cells (n * 1)).toList := ⟨_, rfl⟩; rw [← hcur] at hrow hmz; have hrow1 : w1.heap[w.heap.size + 1 + 1 + 1]? = some (.cells cur.toArray 131 (0, 0)) := (by simpa using hrow); have Hrow := hide hrow1; have Hmz := hide hmz; have hlt1 : w.heap.size + 1 + 1 + 1 < w1.heap.size := (Array.getElem?_eq_some_iff.1 hrow1).1; have hB1 : Below w.heap.size w w1 := (by first | exact (by repeat' (first | with_reducible exact Below.refl _ _ | with_reducible assumption | with_reducible refine Below.alloc ?_ ?_ _ | with_reducible refine Below.setCell ?_ ?_ _ | with_reducible refine Below.drew ?_ | with_reducible refine below_drewN ?_ _ | with_reducible refine Below.trans ?_ (Below.mono (by with_reducible assumption) ?_) | omega | (simp <;> omega)))); clear hrow1 hrow hown hgr hcur hmz; have hz1 : w.heap.size < w1.heap.size := (by omega))
    | (refine wpList_copy_rows rfl (.tmp 12) (.tmp 14) 28 28 rfl 131 Try.underlying28 i0 hi 1 iz1 _ _ _ _ _ _ rfl rfl (w.heap.size + 1 + 1 + 1) 0 cur 131 Hrow.out (vs.map vwv) n (Nat.min_self _).symm Hxl.out (fun h0 => ⟨rfl, by obtain ⟨ad, e, hc⟩ := Hsrc.out h0; refine ⟨ad, e, fun j v hv => ?_⟩; rw [List.take_of_length_le (by rw [Hxl.out]; omega)] at hc; exact (hB1.cell (by obtain ⟨b, off, e2, hb, _⟩ := Hrd.out.2 (by omega); rw [e] at e2; injection e2 with e2; subst e2; unfold Addr.add; split <;> exact hb)).trans (hc j v hv)⟩) (by rw [Hxl.out, Hmz.out]; omega) hx1 (w.heap.size + 1 + 1 + 1) w1 (Below.refl _ _) (Nat.le_refl _) ?_; intro w2 hrow2 hB2; rw [splice_whole cur (vs.map vwv) (by rw [Hxl.out, Hmz.out])] at hrow2; have hcc2 : ∀ b o, b < w.heap.size + 1 + 1 + 1 → w2.cell? ⟨b, o, none⟩ = w1.cell? ⟨b, o, none⟩ := (bcellB hB2).1; have hff2 : ∀ b o, b < w.heap.size + 1 + 1 + 1 → w2.frozen? ⟨b, o, none⟩ = w1.frozen? ⟨b, o, none⟩ := (bcellB hB2).2; have hlt2 : w.heap.size + 1 + 1 + 1 < w2.heap.size := (Array.getElem?_eq_some_iff.1 hrow2.out).1; have hRd2 : Hid (Rd w2 w2.heap.size 1 (some ⟨w.heap.size + 1 + 1 + 1, 0, none⟩) n (vs.map vwv)) := hide (rd_of_row hrow2.out Hxl.out); have hfz : ∀ o, w2.frozen? ⟨w.heap.size + 1 + 1 + 1, o, none⟩ = false := (frozen_of_row hrow2.out); obtain ⟨u0, hu0⟩ : ∃ u, w2.cell? ⟨w.heap.size + 1 + 1 + 1, t, none⟩ = some u := cell_of_row hrow2.out (by rw [Hxl.out]; omega); have e9 : (w2.setCell ⟨w.heap.size + 1 + 1 + 1, t, none⟩ (.map a.v)).cell? ⟨w.heap.size, 1, none⟩ = some (.slice vA n vc) := (by go_simp); have e8 : ∀ v, ((w2.setCell ⟨w.heap.size + 1 + 1 + 1, t, none⟩ (.map a.v)).setCell ⟨w.heap.size, 1, none⟩ v).cell? ⟨w.heap.size, 1, none⟩ = some v := (fun v => by simp [go_sem, e9])))
  obtain ⟨wF, hwF⟩ : ∃ wF : World, wF = ((((w2.setCell ⟨w.heap.size + 1 + 1 + 1, t, none⟩ (.map a.v)).setCell ⟨w.heap.size, 1, none⟩ (.slice (some ⟨w.heap.size + 1 + 1 + 1, 0, none⟩) n n)).setCell ⟨w.heap.size + 1 + 1, 0, none⟩ (.slice pA hs.length pc)).setCell ⟨w.heap.size + 1 + 1, 1, none⟩ (.slice (some ⟨w.heap.size + 1 + 1 + 1, 0, none⟩) n n)) := ⟨_, rfl⟩
  have hBF : Below w.heap.size w wF := by
    have h2 : Below w.heap.size w w2 := hB1.trans (hB2.mono (by omega))
    rw [hwF]
    exact (by repeat' (first | with_reducible exact Below.refl _ _ | with_reducible assumption | with_reducible refine Below.alloc ?_ ?_ _ | with_reducible refine Below.setCell ?_ ?_ _ | with_reducible refine Below.drew ?_ | with_reducible refine below_drewN ?_ _ | with_reducible refine Below.trans ?_ (Below.mono (by with_reducible assumption) ?_) | omega | (simp <;> omega)))
  have hsF : wF.heap.size = w2.heap.size := by rw [hwF]; simp
  refine bodyPost_ret (v := .agg #[.slice pA hs.length pc, .slice (some ⟨w.heap.size + 1 + 1 + 1, 0, none⟩) n n]) (by simp [results, Try.results83, go_sem]; (try go_simp)) rfl ⟨_, rfl, by omega, ?_, ?_⟩
  · rw [← hwF]
    have hRF := (HR.out.below hBF)
    have e1 : (vs.set t a).length = n := by rw [List.length_set, Hvn.out]
    refine ⟨hRF.1, ?_⟩
    show (vs.set t a).length ≤ n ∧ ((some ⟨w.heap.size + 1 + 1 + 1, 0, none⟩ : Option Addr) = none → (vs.set t a).length = 0) ∧ Rd wF wF.heap.size 1 (some ⟨w.heap.size + 1 + 1 + 1, 0, none⟩) (vs.set t a).length ((vs.set t a).map vwv) ∧ ∀ x ∈ vs.set t a, x.R hs.length wF
    rw [e1]
    refine ⟨Nat.le_refl n, (fun e => by cases e), ?_, (fun x hx => ?_)⟩
    · rw [hsF, hwF]
      refine Rd.set_far (Rd.set_far (Rd.set_far (Rd.set hRd2.out ht a) (by omega) _) (by omega) _) (by omega) _
    · rcases List.mem_or_eq_of_mem_set hx with hx | rfl
      · exact hRF.2.2.2.2 x hx
      · exact Ha.out.below hBF
  · rw [← hwF]
    exact hBF
end Go.Proofs.Ytmjkopejbdipcaa
namespace Go.Proofs.Ytmjkopejbdipcaa
set_option linter.unusedSimpArgs false
set_option linter.unusedVariables false
open Go

/-- Operation i waits for operation j, over others perhaps. -/
def waits (ops : Array Oper) : Nat → Nat → Nat → Bool
  | 0, _, _ => false
  | f + 1, i, j => match ops[i]? with
    | none => false
    | some o => o.after.toList.any (fun e => Region.binds .any e && (e.on == j || waits ops f e.on j))
/-- Whatever has come up, what it waits for has come up. -/
def Closed (ops : Array Oper) (l : Array Bool) : Prop := ∀ i o, l.getD i false = true → ops[i]? = some o → ∀ e ∈ o.after, Region.binds .any e = true → l.getD e.on false = true
theorem waits_done {ops : Array Oper} {l : Array Bool} (hc : Closed ops l) : ∀ (f i j : Nat) (o : Oper), ops[i]? = some o → (∀ e ∈ o.after, Region.binds .any e = true → l.getD e.on false = true) → waits ops f i j = true → l.getD j false = true := by
  intro f
  induction f with
  | zero => intro i j o _ _ h; cases h
  | succ f ih =>
    intro i j o ho hall h
    unfold waits at h
    rw [ho] at h
    simp only [List.any_eq_true, Bool.and_eq_true, Bool.or_eq_true, beq_iff_eq] at h
    obtain ⟨e, he, hb, hj⟩ := h
    have he' := Array.mem_toList_iff.1 he
    have hl := hall e he' hb
    rcases hj with rfl | hj
    · exact hl
    · have hon : ∃ o2, ops[e.on]? = some o2 := by
        cases f with
        | zero => cases hj
        | succ f =>
          unfold waits at hj
          cases h2 : ops[e.on]? with
          | none => rw [h2] at hj; cases hj
          | some o2 => exact ⟨o2, rfl⟩
      obtain ⟨o2, ho2⟩ := hon
      exact ih e.on j o2 ho2 (fun e2 h2 hb2 => hc e.on o2 hl ho2 e2 h2 hb2) hj

/-- The first m operations are bound to earlier ones of theirs alone and have no guard; each of the others waits for all of these. -/
def splits (ops pre : Array Oper) : Bool :=
  (List.range ops.size).all fun i => match ops[i]? with
    | none => false
    | some o => if i < pre.size then o.after.toList.all (fun e => decide (e.on < i)) && o.guard.isNone else (List.range pre.size).all fun j => waits ops ops.size i j

/-- What is asked behind the first part: the rest, as a region whose first part is done. -/
def Behind (P : Program) (ops : Array Oper) (m k : Nat) (Q : Exit → Act → World → Prop) : Exit → Act → World → Prop
  | .normal, a, w => ∀ f, wpAny P .any ops Q (f + k) ((List.replicate m true ++ List.replicate k false).toArray) a w
  | e, a, w => Q e a w

variable {P : Program} {ops pre : Array Oper} {Q : Exit → Act → World → Prop}

theorem upon_behind {o : Oper} {m k : Nat} {a : Act} {K K' : Act → World → Prop} {r : Result Next} (hK : ∀ a w, K a w → K' a w)
    (h : o.upon P a K (Behind P ops m k Q) r) : o.upon P a K' Q r := by
  cases r with
  | ok n w' =>
    cases n <;> simp only [Oper.upon] at h ⊢ <;>
      first
        | exact hK _ _ h
        | exact Calls.mono h (fun e w'' he => by cases e <;> first | exact hK _ _ he | exact he)
        | exact Rows.mono h (fun _ _ he => hK _ _ he)
  | halt x w' => cases x <;> simp only [Oper.upon] at h ⊢ <;> exact h

/-- One operation of the first part. -/
theorem wpOp_behind {i m k : Nat} {o : Oper} {a : Act} {w : World} {K K' : Act → World → Prop} (hp : pre[i]? = some o) (ho : ops[i]? = some o) (hg : o.guard = none)
    (hK : ∀ a w, K a w → K' a w) (h : wpOp P pre (Behind P ops m k Q) i K a w) : wpOp P ops Q i K' a w := by
  unfold wpOp at *
  have hw : ∀ y, Region.wanted o y = true := fun y => by unfold Region.wanted; rw [hg]
  simp only [hp, ho, hw, if_true] at h ⊢
  rcases h with h | ⟨h1, h2⟩
  · exact .inl (upon_behind hK h)
  · exact .inr ⟨h1, h2⟩

theorem splits_low (hs : splits ops pre = true) (hz : pre.size ≤ ops.size) {i : Nat} (hi : i < pre.size) : ∃ o, ops[i]? = some o ∧ (∀ e ∈ o.after, e.on < i) ∧ o.guard = none := by
  unfold splits at hs
  rw [List.all_eq_true] at hs
  have h := hs i (List.mem_range.2 (by omega))
  have ho : ops[i]? = some (ops[i]'(by omega)) := Array.getElem?_eq_getElem (by omega)
  rw [ho] at h
  simp only [if_pos hi, Bool.and_eq_true, List.all_eq_true, decide_eq_true_eq, Option.isNone_iff_eq_none] at h
  exact ⟨_, ho, fun e he => h.1 e (Array.mem_toList_iff.2 he), h.2⟩
theorem splits_high (hs : splits ops pre = true) {i j : Nat} (hi : i < ops.size) (hi2 : pre.size ≤ i) (hj : j < pre.size) : waits ops ops.size i j = true := by
  unfold splits at hs
  rw [List.all_eq_true] at hs
  have h := hs i (List.mem_range.2 hi)
  rw [Array.getElem?_eq_getElem hi] at h
  simp only [if_neg (show ¬ i < pre.size by omega), List.all_eq_true, List.mem_range] at h
  exact h j hj

theorem pad_high {l : List Bool} {k i : Nat} (hi : l.length ≤ i) : ((l ++ List.replicate k false).toArray).getD i false = false := by
  simp only [Array.getD, List.size_toArray]
  split
  · simp only [Array.getInternal_eq_getElem, List.getElem_toArray]
    rw [List.getElem_append_right hi]
    simp
  · rfl
theorem pad_low {l : List Bool} {k i : Nat} (d : Bool) (hi : i < l.length) : ((l ++ List.replicate k false).toArray).getD i d = l.toArray.getD i d := by
  simp [Array.getD, hi, List.getElem_append_left hi]
  intro h; omega

/-- Nothing more may come up in the first part: all of it has come up. -/
theorem all_done (hs : splits ops pre = true) (hz : pre.size ≤ ops.size) (hpre : ∀ i, i < pre.size → pre[i]? = ops[i]?) {listed : Array Bool}
    (h : Region.ready .any pre listed = []) : ∀ i, i < pre.size → listed.getD i true = true := by
  intro i
  induction i using Nat.strongRecOn with
  | ind i ih =>
    intro hi
    cases hb : listed.getD i true with
    | true => rfl
    | false =>
      exfalso
      obtain ⟨o, ho, haf, -⟩ := splits_low hs hz hi
      have : i ∈ Region.ready .any pre listed := by
        refine mem_ready.2 ⟨hb, o, (hpre i hi).trans ho, fun e he _ => ?_⟩
        have h1 := ih e.on (haf e he) (by have := haf e he; omega)
        have h0 : e.on < i := haf e he
        have hsz : i < listed.size := by
          rcases Nat.lt_or_ge i listed.size with h' | h'
          · exact h'
          · simp [Array.getD, Nat.not_lt.2 h'] at hb
        simp only [Array.getD, show e.on < listed.size by omega, dif_pos] at h1 ⊢
        exact h1
      rw [h] at this
      cases this

theorem wpAny_behind {k : Nat} (hs : splits ops pre = true) (hz : ops.size = pre.size + k) (hpre : ∀ i, i < pre.size → pre[i]? = ops[i]?) :
    ∀ (fuel : Nat) (l : List Bool) (a : Act) (w : World), l.length = pre.size → Closed ops (l ++ List.replicate k false).toArray → wpAny P .any pre (Behind P ops pre.size k Q) fuel l.toArray a w →
      wpAny P .any ops Q (fuel + k) ((l ++ List.replicate k false).toArray) a w := by
  have hdone : ∀ (l : List Bool), l.length = pre.size → Region.ready .any pre l.toArray = [] → l = List.replicate pre.size true := fun l hl hr => by
    refine List.ext_getElem (by simp [hl]) fun i h1 h2 => ?_
    have h3 := all_done hs (by omega) hpre hr i (by omega)
    simp only [Array.getD, List.size_toArray, h1, dif_pos] at h3
    simpa using h3
  intro fuel
  induction fuel with
  | zero =>
    intro l a w hl hc h
    obtain ⟨h1, h2⟩ := h
    rw [hdone l hl h1]
    exact h2 0
  | succ fuel ih =>
    intro l a w hl hc h
    obtain ⟨h1, h2⟩ := h
    by_cases hr : Region.ready .any pre l.toArray = []
    · have := h1 hr
      rw [hdone l hl hr]
      exact this (fuel + 1)
    · -- something of the first part is still to come: so nothing of the rest may come up
      obtain ⟨i0, hi0⟩ := List.exists_mem_of_ne_nil _ hr
      obtain ⟨hun0, o0, ho0, -⟩ := mem_ready.1 hi0
      have hi0s : i0 < pre.size := (Array.getElem?_eq_some_iff.1 ho0).1
      rw [show fuel + 1 + k = (fuel + k) + 1 by omega]
      have hun0' : ((l ++ List.replicate k false).toArray).getD i0 false = false := by
        have := pad_low (k := k) false (show i0 < l.length by omega)
        rw [this]
        simp only [Array.getD, List.size_toArray, show i0 < l.length by omega, dif_pos] at hun0 ⊢
        exact hun0
      have low : ∀ i, i ∈ Region.ready .any ops (l ++ List.replicate k false).toArray → i < pre.size ∧ i ∈ Region.ready .any pre l.toArray := fun i hi => by
        obtain ⟨hun, o, ho, hall⟩ := mem_ready.1 hi
        have his : i < ops.size := (Array.getElem?_eq_some_iff.1 ho).1
        by_cases hip : i < pre.size
        · refine ⟨hip, mem_ready.2 ⟨?_, o, (hpre i hip).trans ho, fun e he hb => ?_⟩⟩
          · rw [pad_low true (by omega)] at hun; exact hun
          · have h5 := hall e he hb
            obtain ⟨o', ho', haf, -⟩ := splits_low hs (by omega) hip
            rw [ho] at ho'
            injection ho' with ho'
            subst ho'
            rw [pad_low false (by have := haf e he; omega)] at h5
            exact h5
        · exfalso
          have h5 := waits_done hc ops.size i i0 o ho (fun e he hb => hall e he hb) (splits_high hs his (by omega) hi0s)
          rw [hun0'] at h5
          cases h5
      refine ⟨fun h0 => ?_, fun i hi => ?_⟩
      · -- it may come up in the whole too
        exfalso
        obtain ⟨-, o1, ho1, hall1⟩ := mem_ready.1 hi0
        have ho1' := (hpre i0 hi0s).symm.trans ho1
        obtain ⟨o', ho', haf, -⟩ := splits_low hs (by omega) hi0s
        rw [ho1'] at ho'
        injection ho' with ho'
        subst ho'
        have : i0 ∈ Region.ready .any ops (l ++ List.replicate k false).toArray := by
          refine mem_ready.2 ⟨by rw [pad_low true (by omega)]; exact hun0, o1, ho1', fun e he hb => ?_⟩
          rw [pad_low false (by have := haf e he; omega)]
          exact hall1 e he hb
        rw [h0] at this
        cases this
      · obtain ⟨hip, hir⟩ := low i hi
        obtain ⟨o', ho', haf, hg⟩ := splits_low hs (by omega) hip
        refine wpOp_behind ((hpre i hip).trans ho') ho' hg (fun a' w' h' => ?_) (h2 i hir)
        have e1 : (l.toArray).setIfInBounds i true = (l.set i true).toArray := by simp
        have e2 : ((l ++ List.replicate k false).toArray).setIfInBounds i true = (l.set i true ++ List.replicate k false).toArray := by
          simp [List.set_append_left i true (show i < l.length by omega)]
        rw [e1] at h'
        rw [e2]
        refine ih _ _ _ (by simpa using hl) (fun j oj hj hoj e he hb => ?_) h'
        rw [← e2] at hj ⊢
        obtain ⟨-, oi, hoi, hall⟩ := mem_ready.1 hir
        have hmono : ∀ q, ((l ++ List.replicate k false).toArray).getD q false = true → (((l ++ List.replicate k false).toArray).setIfInBounds i true).getD q false = true := fun q hq => by
          by_cases hqi : i = q
          · subst hqi
            have : i < ((l ++ List.replicate k false).toArray).size := by simp; omega
            simp only [Array.getD, Array.size_setIfInBounds, this, dif_pos]
            simp
          · rw [getD_set_ne false hqi]; exact hq
        by_cases hji : j = i
        · subst hji
          rw [hpre j hip] at hoi
          rw [hoi] at hoj
          injection hoj with hoj
          subst hoj
          have h5 := hall e he hb
          rw [ho'] at hoi
          injection hoi with hoi
          subst hoi
          refine hmono _ ?_
          rw [pad_low false (by have := haf e he; omega)]
          exact h5
        · rw [getD_set_ne false (Ne.symm hji)] at hj
          exact hmono _ (hc j oj hj hoj e he hb)

/-- **The beginning**: the first part as a region of its own; behind it the rest. -/
theorem wp_region_parts {id : Nat} {a : Act} {w : World} (pre : List Oper) (m k : Nat) (S : World → Prop) (hm : P.follows .mixedOrders = true) (hp : ops.toList.take m = pre) (hl : pre.length = m) (hz : ops.size = m + k) (hs : splits ops pre.toArray = true) (hS : S w.drew)
    (h : S w.drew → wpAnyH P .any pre.toArray (Behind P ops m k Q) S m (Array.replicate m false) a w.drew) : (Code.region id ops true).wp P Q a w := by
  refine wp_region_any hm ?_
  have h1 := wpAny_of_held _ _ _ _ (h hS)
  have hsz : pre.toArray.size = m := by simpa using hl
  have hpre : ∀ i, i < pre.toArray.size → pre.toArray[i]? = ops[i]? := fun i hi => by
    rw [List.getElem?_toArray, ← hp, List.getElem?_take, if_pos (by omega), Array.getElem?_toList]
  have h2 := wpAny_behind (Q := Q) (k := k) hs (by omega) hpre m (List.replicate m false) a w.drew (by simp [hsz]) (fun i o hi => by rw [List.replicate_append_replicate] at hi; exfalso; simp [Array.getD] at hi) (by rw [List.toArray_replicate, hsz]; exact h1)
  rw [List.replicate_append_replicate, List.toArray_replicate, ← hz] at h2
  exact h2
end Go.Proofs.Ytmjkopejbdipcaa
namespace Go.Proofs.Ytmjkopejbdipcaa
set_option linter.unusedSimpArgs false
set_option linter.unusedVariables false
open Go.RowKit Go.Maps
/-- The view of a thread that reads message i of location k. -/
def findF (j : Bool) (f g : Int → Int) (k i : Int) : Int → Int := if j then joinF (withF f k i) g else withF f k i
set_option maxHeartbeats 2000000 in
set_option maxRecDepth 100000 in
theorem mem_finds_yes (m : MemV) (t k i : Nat) (h : HistV) (g : MsgV) (a : VwV) (w : World) (hR : m.R w) (hh : m.hs[k]? = some h) (hg : h.l[i]? = some g) (ha : m.vs[t]? = some a) (hn : m.vs.length ≤ 1000) (hL : m.hs.length ≤ 4096) (hi6 : i ≤ 1000000) :
    Calls Try.prog 85 #[(.agg #[.slice (m).pA (m).hs.length (m).pc, .slice (m).vA (m).vs.length (m).vc]), .int .i64 ((t : Int) + 1), .int .i64 k, .int .i64 i, .bool true] w fun e w' => ∃ G v', e = .returned (.tuple #[.agg #[.slice m.pA m.hs.length m.pc, .slice (some ⟨G, 0, none⟩) m.vs.length m.vs.length], (.agg #[.int .i64 (g.x).v, .int .u32 (g.x).r, .int .u32 (g.x).f])]) ∧ w.heap.size ≤ G ∧ (m.with (some ⟨G, 0, none⟩) m.vs.length t ⟨v', joinF (withF a.f k i) g.a.f⟩).R w' ∧ Below w.heap.size w w' := by
  have hkn : k < m.hs.length := (List.getElem?_eq_some_iff.1 hh).1
  have htn : t < m.vs.length := (List.getElem?_eq_some_iff.1 ha).1
  have hhR : h.R m.hs.length w := hR.1.2.2.2 h (List.mem_of_getElem? hh)
  have haR : a.R m.hs.length w := hR.2.2.2.2 a (List.mem_of_getElem? ha)
  have hgR : g.a.R m.hs.length w := hhR.2.2.2 g (List.mem_of_getElem? hg)
  obtain ⟨b, off, e, hb, c0⟩ := Rd.one hR.1.2.2.1 hkn hh
  obtain ⟨pA, pc, hs, vA, vc, vs⟩ := m
  simp only at e hkn htn hhR haR hgR hn hL hh ha
  subst e
  obtain ⟨m, hm⟩ : ∃ m, m = MemV.mk (some ⟨b, off, none⟩) pc hs vA vc vs := ⟨_, rfl⟩
  rw [← hm] at hR
  have hat := fun W (hw : h.R hs.length W) => hist_at hs.length h i g W hw hg
  have hseen := fun W (hw : m.R W) => mem_seen m t a W hw (by rw [hm]; exact ha) (by rw [hm]; exact hn)
  have hwith := fun W (hw : a.R hs.length W) => view_with hs.length hL a k i W hw (by omega) (by omega) (WalkArith.wf_i64 (by omega))
  have hmw := fun (x : VwV) W (hw : m.R W) (hx : x.R hs.length W) => mem_with m t x W hw (by rw [hm]; exact htn) (by rw [hm]; exact hn) (by rw [hm]; exact hx)
  have hjoin := fun (x : VwV) W (hx : x.R hs.length W) (hy : g.a.R hs.length W) => view_join hs.length hL x g.a W hx hy
  simp only [hm] at hseen hmw
  rw [hm] at hR
  have Hat := hide hat
  have Hseen := hide hseen
  have Hwith := hide hwith
  have Hmw := hide hmw
  have Hjoin := hide hjoin
  have HR := hide hR
  have Hh := hide hhR
  have HaR := hide haR
  have HgR := hide hgR
  have h0 : (0 : Int) ≤ (k : Int) := by omega
  have h1 : (k : Int) < (hs.length : Int) := by omega
  have hbz1 : b < w.heap.size + 1 := by omega
  have hbz2 : b < w.heap.size + 1 + 1 := by omega
  have hbz : b < w.heap.size + 1 + 1 + 1 := by omega
  unfold histv at c0
  clear hR hhR haR hgR hh hg ha hn hL hi6 hkn htn hm hat hseen hwith hmw hjoin
  go_enter Try.func85, Try.ntmps85
  go_wp2_with (first
    | (go_at_call 79; refine (Hseen.out _ (HR.out.below (by repeat' (first | with_reducible exact Below.refl _ _ | with_reducible assumption | with_reducible refine Below.alloc ?_ ?_ _ | with_reducible refine Below.setCell ?_ ?_ _ | with_reducible refine Below.drew ?_ | with_reducible refine below_drewN ?_ _ | with_reducible refine Below.trans ?_ (Below.mono (by with_reducible assumption) ?_) | omega | (simp <;> omega))))).mono ?_; rintro e w2 ⟨rfl, hb2⟩; obtain ⟨hcc2, hff2⟩ := bcell hb2; have hs2 := hb2.size; (try simp at hs2); have hz2 : w.heap.size < w2.heap.size := (by omega); have hz2a : w.heap.size + 1 < w2.heap.size := (by omega); have hz2b : w.heap.size + 1 + 1 < w2.heap.size := (by omega); have hz2c : w1.heap.size < w2.heap.size := (by omega))
    | (go_at_call 80; refine (Hwith.out _ (HaR.out.below (by repeat' (first | with_reducible exact Below.refl _ _ | with_reducible assumption | with_reducible refine Below.alloc ?_ ?_ _ | with_reducible refine Below.setCell ?_ ?_ _ | with_reducible refine Below.drew ?_ | with_reducible refine below_drewN ?_ _ | with_reducible refine Below.trans ?_ (Below.mono (by with_reducible assumption) ?_) | omega | (simp <;> omega))))).mono ?_; rintro e w3 ⟨v3, rfl, hv3, hb3⟩; obtain ⟨hcc3, hff3⟩ := bcell hb3; have hs3 := hb3.size; (try simp at hs3); have hz3 : w.heap.size < w3.heap.size := (by omega); have hz3a : w.heap.size + 1 < w3.heap.size := (by omega); have hz3b : w.heap.size + 1 + 1 < w3.heap.size := (by omega); have hz3c : w1.heap.size < w3.heap.size := (by omega); have Hv3 := hide hv3; clear hv3)
    | (go_at_call 89; refine (Hjoin.out ⟨v3, _⟩ _ (Hv3.out.below (by repeat' (first | with_reducible exact Below.refl _ _ | with_reducible assumption | with_reducible refine Below.alloc ?_ ?_ _ | with_reducible refine Below.setCell ?_ ?_ _ | with_reducible refine Below.drew ?_ | with_reducible refine below_drewN ?_ _ | with_reducible refine Below.trans ?_ (Below.mono (by with_reducible assumption) ?_) | omega | (simp <;> omega)))) (HgR.out.below (by repeat' (first | with_reducible exact Below.refl _ _ | with_reducible assumption | with_reducible refine Below.alloc ?_ ?_ _ | with_reducible refine Below.setCell ?_ ?_ _ | with_reducible refine Below.drew ?_ | with_reducible refine below_drewN ?_ _ | with_reducible refine Below.trans ?_ (Below.mono (by with_reducible assumption) ?_) | omega | (simp <;> omega))))).mono ?_; rintro e w4 ⟨v4, rfl, hv4, hb4⟩; obtain ⟨hcc4, hff4⟩ := bcell hb4; have hs4 := hb4.size; (try simp at hs4); have hz4 : w.heap.size < w4.heap.size := (by omega); have hz4a : w.heap.size + 1 < w4.heap.size := (by omega); have hz4b : w.heap.size + 1 + 1 < w4.heap.size := (by omega); have hz4c : w1.heap.size < w4.heap.size := (by omega); have hz4d : w3.heap.size < w4.heap.size := (by omega); have Hv4 := hide hv4; clear hv4)
    | (go_at_call 62; refine (Hat.out _ (Hh.out.below (by repeat' (first | with_reducible exact Below.refl _ _ | with_reducible assumption | with_reducible refine Below.alloc ?_ ?_ _ | with_reducible refine Below.setCell ?_ ?_ _ | with_reducible refine Below.drew ?_ | with_reducible refine below_drewN ?_ _ | with_reducible refine Below.trans ?_ (Below.mono (by with_reducible assumption) ?_) | omega | (simp <;> omega))))).mono ?_; rintro e w1 ⟨rfl, hb1⟩; obtain ⟨hcc1, hff1⟩ := bcell hb1; have hs1 := hb1.size; (try simp at hs1); have hz1 : w.heap.size < w1.heap.size := (by omega); have hz1a : w.heap.size + 1 < w1.heap.size := (by omega); have hz1b : w.heap.size + 1 + 1 < w1.heap.size := (by omega)))
  have x0 : w4.cell? ⟨w3.heap.size, 0, none⟩ = some (.map v3) := by go_simp
  obtain ⟨wa, hwa⟩ : ∃ wa : World, wa = w4.setCell ⟨w3.heap.size, 0, none⟩ (.map v4) := ⟨_, rfl⟩
  have q0 : wa.cell? ⟨w.heap.size, 0, none⟩ = some (.slice (some ⟨b, off, none⟩) hs.length pc) := by rw [hwa]; go_simp
  have q1 : wa.cell? ⟨w.heap.size, 1, none⟩ = some (.slice vA vs.length vc) := by rw [hwa]; go_simp
  have q2 : wa.cell? ⟨w3.heap.size, 0, none⟩ = some (.map v4) := by rw [hwa]; go_simp
  have q3 : wa.cell? ⟨w1.heap.size, 0, none⟩ = some (.int .i64 g.x.v) := by rw [hwa]; go_simp
  have q4 : wa.cell? ⟨w1.heap.size, 1, none⟩ = some (.int .u32 g.x.r) := by rw [hwa]; go_simp
  have q5 : wa.cell? ⟨w1.heap.size, 2, none⟩ = some (.int .u32 g.x.f) := by rw [hwa]; go_simp
  have r0 : wa.cell? ⟨w.heap.size + 1, 0, none⟩ = some (.slice none 0 0) := by rw [hwa]; go_simp
  have r1 : wa.cell? ⟨w.heap.size + 1, 1, none⟩ = some (.slice none 0 0) := by rw [hwa]; go_simp
  have r2 : wa.cell? ⟨w.heap.size + 1 + 1, 0, none⟩ = some (.int .i64 0) := by rw [hwa]; go_simp
  have r3 : wa.cell? ⟨w.heap.size + 1 + 1, 1, none⟩ = some (.int .u32 0) := by rw [hwa]; go_simp
  have r4 : wa.cell? ⟨w.heap.size + 1 + 1, 2, none⟩ = some (.int .u32 0) := by rw [hwa]; go_simp
  have f0 : ∀ o, wa.frozen? ⟨w.heap.size + 1, o, none⟩ = false := by intro o; rw [hwa]; go_simp
  have f1 : ∀ o, wa.frozen? ⟨w.heap.size + 1 + 1, o, none⟩ = false := by intro o; rw [hwa]; go_simp
  have hBa : Below w.heap.size w wa := by rw [hwa]; exact (by repeat' (first | with_reducible exact Below.refl _ _ | with_reducible assumption | with_reducible refine Below.alloc ?_ ?_ _ | with_reducible refine Below.setCell ?_ ?_ _ | with_reducible refine Below.drew ?_ | with_reducible refine below_drewN ?_ _ | with_reducible refine Below.trans ?_ (Below.mono (by with_reducible assumption) ?_) | omega | (simp <;> omega)))
  have hVa : VwV.R hs.length wa ⟨v4, joinF (withF a.f k i) g.a.f⟩ := by rw [hwa]; exact Hv4.out.setCell x0 _
  have HVa := hide hVa
  have hza : wa.heap.size = w4.heap.size := by rw [hwa]; simp
  have hA0 : w.heap.size < wa.heap.size := by omega
  have hA1 : w.heap.size + 1 < wa.heap.size := by omega
  have hA2 : w.heap.size + 1 + 1 < wa.heap.size := by omega
  have hA3 : w3.heap.size < wa.heap.size := by omega
  have hA4 : w1.heap.size < wa.heap.size := by omega
  rw [← hwa]
  clear hwa hza hVa x0 hcc1 hcc2 hcc3 hcc4 hff1 hff2 hff3 hff4 hb1 hb2 hb3 hb4 Hv3 Hv4 Hat Hseen Hwith Hjoin
  refine wp_region_held_drew (S := (fun w' => (w'.cell? ⟨w.heap.size, 0, none⟩ = some (.slice (some ⟨b, off, none⟩) hs.length pc) ∧ w'.cell? ⟨w.heap.size, 1, none⟩ = some (.slice vA vs.length vc) ∧ w'.cell? ⟨w3.heap.size, 0, none⟩ = some (.map v4)) ∧ w'.cell? ⟨w1.heap.size, 0, none⟩ = some (.int .i64 g.x.v) ∧ w'.cell? ⟨w1.heap.size, 1, none⟩ = some (.int .u32 g.x.r) ∧ w'.cell? ⟨w1.heap.size, 2, none⟩ = some (.int .u32 g.x.f))) (by kernel_rfl) (by first | exact ⟨⟨by go_simp, by go_simp, by go_simp⟩, by go_simp, by go_simp, by go_simp⟩) (fun hHeld => ?_)
  refine wpAnyH_take (i := 0) (v := ?_) (oi := { dst := some 36, op := Op.load 30 (Operand.tmp 5), type := 30, pos := "memory.go:91", after := #[], guard := none }) (by rfl) (by kernel_rfl) (by kernel_rfl) (by kernel_rfl) (fun _ _ _ h => h) (Or.inl ⟨by rfl, ?_⟩) (by assumption) ?_; rotate_left; focus (intro wTk hSw; (try dsimp only at hSw); go_simp; (try with_reducible rfl); done)
  (try simp only [Act.put, List.setIfInBounds_toArray, List.set_cons_zero, List.set_cons_succ])
  refine wpAnyH_take (i := 1) (v := ?_) (oi := { dst := some 37, op := Op.move (Operand.tmp 1), type := 3, pos := "memory.go:91", after := #[], guard := none }) (by rfl) (by kernel_rfl) (by kernel_rfl) (by kernel_rfl) (fun _ _ _ h => h) (Or.inl ⟨by rfl, ?_⟩) (by assumption) ?_; rotate_left; focus (intro wTk hSw; (try dsimp only at hSw); go_simp; (try with_reducible rfl); done)
  (try simp only [Act.put, List.setIfInBounds_toArray, List.set_cons_zero, List.set_cons_succ])
  refine wpAnyH_take (i := 2) (v := ?_) (oi := { dst := some 38, op := Op.load 131 (Operand.tmp 14), type := 131, pos := "memory.go:91", after := #[], guard := none }) (by rfl) (by kernel_rfl) (by kernel_rfl) (by kernel_rfl) (fun _ _ _ h => h) (Or.inl ⟨by rfl, ?_⟩) (by assumption) ?_; rotate_left; focus (intro wTk hSw; (try dsimp only at hSw); go_simp; (try with_reducible rfl); done)
  (try simp only [Act.put, List.setIfInBounds_toArray, List.set_cons_zero, List.set_cons_succ])
  refine wpAnyH_take (i := 4) (v := ?_) (oi := { dst := some 40, op := Op.fieldAddr 133 (Operand.tmp 12) 0, type := 0, pos := "memory.go:91", after := #[{ on := 6, ground := Ground.gcOnly Departure.lateStores }], guard := none }) (by rfl) (by kernel_rfl) (by kernel_rfl) (by kernel_rfl) (fun _ _ _ h => h) (Or.inl ⟨by rfl, ?_⟩) (by assumption) ?_; rotate_left; focus (intro wTk hSw; (try dsimp only at hSw); go_simp; (try with_reducible rfl); done)
  (try simp only [Act.put, List.setIfInBounds_toArray, List.set_cons_zero, List.set_cons_succ])
  refine wpAnyH_take (i := 5) (v := ?_) (oi := { dst := some 41, op := Op.load 44 (Operand.tmp 40), type := 44, pos := "memory.go:91", after := #[{ on := 4, ground := Ground.data }, { on := 6, ground := Ground.gcOnly Departure.lateStores }], guard := none }) (by rfl) (by kernel_rfl) (by kernel_rfl) (by kernel_rfl) (fun _ _ _ h => h) (Or.inl ⟨by rfl, ?_⟩) (by assumption) ?_; rotate_left; focus (intro wTk hSw; (try dsimp only at hSw); go_simp; (try with_reducible rfl); done)
  (try simp only [Act.put, List.setIfInBounds_toArray, List.set_cons_zero, List.set_cons_succ])
  refine wpAnyH_ready (rs := [3]) (by kernel_rfl) (by simp) ?_
  refine AllReadyH.cons (o := { dst := some 39, op := Op.call { callee := Callee.value (Operand.func 83), args := #[Operand.tmp 36, Operand.tmp 37, Operand.tmp 38], argTypes := #[30, 3, 131] }, type := 30, pos := "memory.go:91", after := #[{ on := 0, ground := Ground.data }, { on := 1, ground := Ground.data }, { on := 2, ground := Ground.data }], guard := none }) (by rfl) (fun K hK => ?_) (AllReadyH.nil)
  go_simp
  (go_at_call 83; refine (Hmw.out ⟨v4, _⟩ _ (HR.out.below (by repeat' (first | with_reducible exact Below.refl _ _ | with_reducible assumption | with_reducible refine Below.alloc ?_ ?_ _ | with_reducible refine Below.setCell ?_ ?_ _ | with_reducible refine Below.drew ?_ | with_reducible refine below_drewN ?_ _ | with_reducible refine Below.trans ?_ (Below.mono (by with_reducible assumption) ?_) | omega | (simp <;> omega)))) (HVa.out.below (by repeat' (first | with_reducible exact Below.refl _ _ | with_reducible assumption | with_reducible refine Below.alloc ?_ ?_ _ | with_reducible refine Below.setCell ?_ ?_ _ | with_reducible refine Below.drew ?_ | with_reducible refine below_drewN ?_ _ | with_reducible refine Below.trans ?_ (Below.mono (by with_reducible assumption) ?_) | omega | (simp <;> omega))))).mono ?_; rintro e w5 ⟨g5, rfl, hg5, hm5, hb5'⟩; (try simp at hg5); have hb5 : Below wa.heap.size wa w5 := (by first | with_reducible exact noDrew hb5' | exact hb5'); clear hb5'; obtain ⟨hcc5, hff5⟩ := bcell hb5; have hs5 := hb5.size; have Hm5 := hide (MemV.with_rd hm5 rfl); clear hm5; have hz5a : w.heap.size + 1 < w5.heap.size := (by omega); have hz5b : w.heap.size + 1 + 1 < w5.heap.size := (by omega))
  go_wp2_with fail
  refine hK.out _ _ (by first | exact ⟨⟨by go_simp, by go_simp, by go_simp⟩, by go_simp, by go_simp, by go_simp⟩) (fun hHeld => ?_)
  clear hK K
  (try simp only [Act.put, List.setIfInBounds_toArray, List.set_cons_zero, List.set_cons_succ])
  refine wpAnyH_ready (rs := [6]) (by kernel_rfl) (by simp) ?_
  refine AllReadyH.cons (o := { dst := none, op := Op.store 30 (Operand.tmp 10) (Operand.tmp 39), type := 0, pos := "memory.go:91", after := #[{ on := 3, ground := Ground.data }, { on := 3, ground := Ground.chain }, { on := 0, ground := Ground.phase }, { on := 1, ground := Ground.phase }, { on := 2, ground := Ground.phase }, { on := 3, ground := Ground.phase }, { on := 4, ground := Ground.textOnly Departure.lateStores }, { on := 5, ground := Ground.textOnly Departure.lateStores }], guard := none }) (by rfl) (fun K hK => ?_) (AllReadyH.nil)
  go_simp
  skip
  go_wp2_with fail
  refine hK.out _ _ (by first | exact ⟨⟨by go_simp, by go_simp, by go_simp⟩, by go_simp, by go_simp, by go_simp⟩) (fun hHeld => ?_)
  clear hK K
  (try simp only [Act.put, List.setIfInBounds_toArray, List.set_cons_zero, List.set_cons_succ])
  refine wpAnyH_ready (rs := [7]) (by kernel_rfl) (by simp) ?_
  refine AllReadyH.cons (o := { dst := none, op := Op.store 44 (Operand.tmp 11) (Operand.tmp 41), type := 0, pos := "memory.go:91", after := #[{ on := 5, ground := Ground.data }, { on := 6, ground := Ground.chain }, { on := 0, ground := Ground.phase }, { on := 1, ground := Ground.phase }, { on := 2, ground := Ground.phase }, { on := 3, ground := Ground.phase }, { on := 4, ground := Ground.phase }, { on := 5, ground := Ground.phase }, { on := 6, ground := Ground.phase }], guard := none }) (by rfl) (fun K hK => ?_) (AllReadyH.nil)
  go_simp
  skip
  go_wp2_with fail
  refine hK.out _ _ (by first | exact ⟨⟨by go_simp, by go_simp, by go_simp⟩, by go_simp, by go_simp, by go_simp⟩) (fun hHeld => ?_)
  clear hK K
  (try simp only [Act.put, List.setIfInBounds_toArray, List.set_cons_zero, List.set_cons_succ])
  refine wpAnyH_done (by kernel_rfl) ?_ _
  all_goals go_wp2_with fail
  all_goals have s0 : ∀ u, (((w5.setCell ⟨w.heap.size + 1, 0, none⟩ (.slice (some ⟨b, off, none⟩) hs.length pc)).setCell ⟨w.heap.size + 1, 1, none⟩ (.slice (some ⟨g5, 0, none⟩) vs.length vs.length)).setCell ⟨w.heap.size + 1 + 1, 0, none⟩ u).heap.size = w5.heap.size := fun u => by simp
  all_goals refine bodyPost_ret (v := .tuple #[.agg #[.slice (some ⟨b, off, none⟩) hs.length pc, .slice (some ⟨g5, 0, none⟩) vs.length vs.length], (.agg #[.int .i64 (g.x).v, .int .u32 (g.x).r, .int .u32 (g.x).f])]) (by simp [results, Try.results85, go_sem]; (try go_simp)) rfl ⟨_, v4, rfl, by omega, MemV.with_R HR.out (by repeat' (first | with_reducible exact Below.refl _ _ | with_reducible assumption | with_reducible refine Below.alloc ?_ ?_ _ | with_reducible refine Below.setCell ?_ ?_ _ | with_reducible refine Below.drew ?_ | with_reducible refine below_drewN ?_ _ | with_reducible refine Below.trans ?_ (Below.mono (by with_reducible assumption) ?_) | omega | (simp <;> omega))) rfl ?_ ?_, (by repeat' (first | with_reducible exact Below.refl _ _ | with_reducible assumption | with_reducible refine Below.alloc ?_ ?_ _ | with_reducible refine Below.setCell ?_ ?_ _ | with_reducible refine Below.drew ?_ | with_reducible refine below_drewN ?_ _ | with_reducible refine Below.trans ?_ (Below.mono (by with_reducible assumption) ?_) | omega | (simp <;> omega)))⟩
  all_goals first
    | (refine Rd.more (Rd.set_far (Rd.set_far (Rd.set_far (Rd.set_far (Rd.set_far Hm5.out ?_ _) ?_ _) ?_ _) ?_ _) ?_ _) (by simp) <;> omega)
    | exact (((((HVa.out.below hb5).setCell (u := .slice none 0 0) (by go_simp) _).setCell (u := .slice none 0 0) (by go_simp) _).setCell (u := .int .i64 0) (by go_simp) _).setCell (u := .int .u32 0) (by go_simp) _).setCell (u := .int .u32 0) (by go_simp) _
end Go.Proofs.Ytmjkopejbdipcaa
namespace Go.Proofs.Ytmjkopejbdipcaa
set_option linter.unusedSimpArgs false
set_option linter.unusedVariables false
open Go.RowKit Go.Maps
/-- There is such a cell. -/
def HasC (p : Addr) (w : World) : Prop := ∃ u, w.cell? p = some u
theorem HasC.of {p : Addr} {w : World} {u : Value} (h : w.cell? p = some u) : HasC p w := ⟨u, h⟩
theorem HasC.set {p q : Addr} {w : World} (h : HasC p w) (x : Value) : HasC p (w.setCell q x) := by
  obtain ⟨u, h⟩ := h
  by_cases e : p = q
  · subst e
    exact ⟨x, World.cell?_setCell_same _ _ _ h⟩
  · exact ⟨u, by rw [World.cell?_setCell_other _ _ _ _ (fun e2 => e (by first | exact e2 | exact e2.symm))]; exact h⟩
/-- The new slice of views at block g, the new view. -/
def NewV (L g n : Nat) (vs : List VwV) (a : VwV) (w : World) : Prop := Rd w w.heap.size 1 (some ⟨g, 0, none⟩) n (vs.map vwv) ∧ a.R L w
theorem NewV.of {m : MemV} {g n t : Nat} {a : VwV} {w : World} (hn : m.vs.length = n) (ht : t < n) (h : (m.with (some ⟨g, 0, none⟩) n t a).R w) : NewV m.hs.length g n (m.vs.set t a) a w := by
  have e1 : (m.vs.set t a).length = n := by rw [List.length_set, hn]
  have h1 : Rd w w.heap.size 1 (some ⟨g, 0, none⟩) (m.vs.set t a).length ((m.vs.set t a).map vwv) := h.2.2.2.1
  rw [e1] at h1
  exact ⟨h1, h.2.2.2.2 a (List.mem_of_getElem? (i := t) (by show (m.vs.set t a)[t]? = some a; rw [List.getElem?_set, if_pos rfl, if_pos (by omega)]))⟩
theorem NewV.below {L g n : Nat} {vs : List VwV} {a : VwV} {w w' : World} (h : NewV L g n vs a w) (hb : Below w.heap.size w w') : NewV L g n vs a w' := ⟨(h.1.below hb).more hb.size, h.2.below hb⟩
theorem NewV.alloc {L g n : Nat} {vs : List VwV} {a : VwV} {w : World} (h : NewV L g n vs a w) (o : Array Value) (t : TypeId) : NewV L g n vs a (w.alloc (.cells o t)) := h.below (Below.alloc (Below.refl _ _) (Nat.le_refl _) _)
theorem NewV.rd {L g n : Nat} {vs : List VwV} {a : VwV} {w : World} (h : NewV L g n vs a w) : Rd w w.heap.size 1 (some ⟨g, 0, none⟩) n (vs.map vwv) := h.1
theorem NewV.r {L g n : Nat} {vs : List VwV} {a : VwV} {w : World} (h : NewV L g n vs a w) : a.R L w := h.2
theorem NewV.lt {L g n : Nat} {vs : List VwV} {a : VwV} {w : World} (h : NewV L g n vs a w) (hn : 0 < n) : g < w.heap.size := by
  obtain ⟨b, off, e, hb, _⟩ := h.1.2 (by omega)
  injection e with e
  injection e with e _
  omega
theorem NewV.drew {L g n : Nat} {vs : List VwV} {a : VwV} {w : World} (h : NewV L g n vs a w) : NewV L g n vs a w.drew := h.below (Below.drew (Below.refl _ _))
theorem NewV.set {L g n c o : Nat} {vs : List VwV} {a : VwV} {w : World} (h : NewV L g n vs a w) (hne : c ≠ g) (hc : HasC ⟨c, o, none⟩ w) (x : Value) : NewV L g n vs a (w.setCell ⟨c, o, none⟩ x) := by
  obtain ⟨u, hc⟩ := hc
  refine ⟨?_, h.2.setCell hc x⟩
  have h1 := h.1.set_far (c := c) (o := o) hne x
  have e : (w.setCell ⟨c, o, none⟩ x).heap.size = w.heap.size := by simp
  rw [e]
  exact h1
end Go.Proofs.Ytmjkopejbdipcaa
