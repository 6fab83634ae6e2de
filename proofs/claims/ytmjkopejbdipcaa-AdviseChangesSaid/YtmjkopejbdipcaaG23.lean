/- AdviseChanges: three threads that add to one word after resting leave the same word and return the same results as threads without rests under the schedule with the resting steps removed. No condition. -/
import Derived.Test.YtmjkopejbdipcaaRows
import Derived.Test.YtmjkopejbdipcaaG00
import Derived.Test.YtmjkopejbdipcaaG01
import Derived.Test.YtmjkopejbdipcaaG10
import Derived.Test.YtmjkopejbdipcaaG22
namespace Go.Proofs.Ytmjkopejbdipcaa.lawChanges
set_option linter.unusedSimpArgs false
set_option linter.unusedVariables false
open Go.ChangeShapes Go.WideShapes Go.ChangeAt Go.RowKit
theorem info_code : (Try.prog.info? 47).map (fun i => (i.zero, i.size, i.bytes)) = some (some .nilIface, 1, 16) := by kernel_rfl
/-- A row of the call's own that an append onto another row leaves alone. -/
theorem own_stay {w w' : World} {base size n : Nat} {e : TypeId} {v : Value} {u : Value} {xs : List Value} (h : w.ownsRow base e size v n xs) (hst : ∀ b, b < w.heap.size → u.ownBlock ≠ some b → w'.heap[b]? = w.heap[b]?) (hne : ∀ b, v.ownBlock = some b → u.ownBlock ≠ some b) : w'.ownsRow base e size v n xs := by
  obtain ⟨h1, h2⟩ := h
  refine ⟨h1, ?_⟩
  rcases h2 with h2 | ⟨g, cap, cur, rfl, hb, hg, h3⟩
  · exact .inl h2
  · exact .inr ⟨g, cap, cur, rfl, hb, by rw [hst g (Array.getElem?_eq_some_iff.1 hg).1 (hne g rfl)]; exact hg, h3⟩
theorem rd_alloc (W : World) (cs : Array Value) (t : TypeId) {n size : Nat} (h : cs.toList.length = n * size) : Rd (W.alloc (.cells cs t)) (W.alloc (.cells cs t)).heap.size size (some ⟨W.heap.size, 0, none⟩) n cs.toList := ⟨h, fun _ => ⟨_, 0, rfl, by simp, fun j u hu => by rw [Nat.zero_add]; exact (BoxC.made W cs t).1 j u hu⟩⟩
def plainV (nf : Nat → Int) (t : Nat) : Value := .iface 104 (pC (nf t) c0S)
def wrapV (nf rf : Nat → Int) (t : Nat) : Value := .iface 95 (pR (nf t) (rf t % 5) (rf t % 3) false)
/-- The rests that are left to a thread. -/
def leftF (rf : Nat → Int) (t : Nat) : Nat := (rf t % 5).toNat + (rf t % 3).toNat
/-- The array of the rests that are left, filled up to k. -/
def lstL (rf : Nat → Int) (k : Nat) : List Value := (List.range 3).map (fun j => .int .i64 (if j < k then (leftF rf j : Int) else 0))
theorem lstL_at (rf : Nat → Int) {j : Nat} (hj : j < 3) (k : Nat) : (lstL rf k)[j]? = some (.int .i64 (if j < k then (leftF rf j : Int) else 0)) := by
  unfold lstL
  rw [List.getElem?_map, List.getElem?_range hj]
  rfl
/-- The cells of a world. -/
def vcells (V : WorldV) : List Value := [.slice V.M.mem.pA V.M.mem.hs.length V.M.mem.pc, .slice V.M.mem.vA V.M.mem.vs.length V.M.mem.vc, .slice V.M.ln.fA V.M.ln.first.length V.M.ln.fc, .slice V.M.ln.lA V.M.ln.logs.length V.M.ln.lc, .map V.M.ln.asks, .slice V.M.sA V.M.steps.length V.M.sc, .int .i64 V.M.crashes, .slice V.tA V.ts.length V.tc, .slice V.sA V.ss.length V.sc]
/-- Neither world names one of the law's own blocks. -/
def Offs (A B C : Nat) (Va Vb : WorldV) : Prop := Va.off A ∧ Va.off B ∧ Va.off C ∧ Vb.off A ∧ Vb.off B ∧ Vb.off C
def lftL (left : Nat → Nat) : List Value := (List.range 3).map (fun j => .int .i64 (left j : Int))
theorem lftL_at (left : Nat → Nat) {j : Nat} (hj : j < 3) : (lftL left)[j]? = some (.int .i64 (left j : Int)) := by
  unfold lftL
  rw [List.getElem?_map, List.getElem?_range hj]
  rfl
theorem lftL_set (left : Nat → Nat) {t : Nat} (ht : t < 3) (m : Nat) : (lftL left).set t (.int .i64 (m : Int)) = lftL (fun j => if j = t then m else left j) := by
  have hl : ∀ f, (lftL f).length = 3 := fun f => by simp [lftL]
  apply List.ext_getElem?
  intro j
  by_cases hj : j < 3
  · rw [lftL_at _ hj, List.getElem?_set]
    by_cases e : t = j
    · subst e
      rw [if_pos rfl, if_pos (by rw [hl]; exact ht), if_pos rfl]
    · rw [if_neg e, lftL_at left hj, if_neg (fun q => e q.symm)]
  · rw [List.getElem?_eq_none (by rw [List.length_set, hl]; omega), List.getElem?_eq_none (by rw [hl]; omega)]
theorem lftL_of (rf : Nat → Int) : lstL rf 3 = lftL (leftF rf) := by
  unfold lstL lftL
  apply List.map_congr_left
  intro j hj
  rw [if_pos (by simpa using hj)]
theorem lstL_set (rf : Nat → Int) {k : Nat} (hk : k < 3) (h0 : 0 ≤ rf k) : (lstL rf k).set k (.int .i64 (rf k % 5 + rf k % 3)) = lstL rf (k + 1) := by
  have hl : ∀ m, (lstL rf m).length = 3 := fun m => by simp [lstL]
  apply List.ext_getElem?
  intro j
  by_cases hj : j < 3
  · rw [lstL_at rf hj, List.getElem?_set]
    by_cases e : k = j
    · subst e
      rw [if_pos rfl, if_pos (by rw [hl]; exact hk), if_pos (by omega)]
      have : (leftF rf k : Int) = rf k % 5 + rf k % 3 := by unfold leftF; omega
      rw [this]
    · rw [if_neg e, lstL_at rf hj]
      by_cases q : j < k
      · rw [if_pos q, if_pos (by omega)]
      · rw [if_neg q, if_neg (by omega)]
  · rw [List.getElem?_eq_none (by rw [List.length_set, hl]; omega), List.getElem?_eq_none (by rw [hl]; omega)]
theorem law_starts (nf rf : Nat → Int) (hrb : ∀ t, 0 ≤ rf t ∧ rf t ≤ 255) : ∃ ka kb : Nat → TaskV, ∀ t, Fresh (ka t) ∧ Fresh (kb t) ∧ StartIs (plainV nf t) (ka t) ∧ StartIs (wrapV nf rf t) (kb t) ∧ Sim (nf t) (leftF rf t) 0 (ka t) (kb t) := by
  have h : ∀ t, ∃ ka kb, Fresh ka ∧ Fresh kb ∧ StartIs (plainV nf t) ka ∧ StartIs (wrapV nf rf t) kb ∧ Sim (nf t) (leftF rf t) 0 ka kb := by
    intro t
    have h0 := (hrb t).1
    obtain ⟨ka, kb, q1, q2, q3, q4, q5⟩ := starts (nf t) (rf t % 5).toNat (rf t % 3).toNat (by omega) (by omega)
    rw [Int.toNat_of_nonneg (by omega), Int.toNat_of_nonneg (by omega)] at q4
    exact ⟨ka, kb, q1, q2, q3, q4, q5⟩
  obtain ⟨ka, h⟩ := Classical.axiomOfChoice h
  obtain ⟨kb, h⟩ := Classical.axiomOfChoice h
  exact ⟨ka, kb, h⟩
theorem range3_at {f : Nat → Value} {j : Nat} {c : Value} (h : ((List.range 3).map f)[j]? = some c) : j < 3 ∧ c = f j := by
  rw [List.getElem?_map] at h
  by_cases hj : j < 3
  · rw [List.getElem?_range hj] at h
    exact ⟨hj, (Option.some.inj h).symm⟩
  · rw [List.getElem?_eq_none (by simp; omega)] at h
    cases h
theorem three_at {k : Nat → TaskV} {j : Nat} {y : TaskV} (h : [k 0, k 1, k 2][j]? = some y) : y = k j := by
  match j, h with
  | 0, h => exact (Option.some.inj h).symm
  | 1, h => exact (Option.some.inj h).symm
  | 2, h => exact (Option.some.inj h).symm
theorem three_mem {k : Nat → TaskV} (hk : ∀ t, Fresh (k t)) : ∀ y ∈ [k 0, k 1, k 2], y.ok ∧ y.A = none ∧ y.m = 0 ∧ y.cp = 0 := by
  intro y hy
  simp only [List.mem_cons, List.not_mem_nil, or_false] at hy
  rcases hy with rfl | rfl | rfl
  · exact hk 0
  · exact hk 1
  · exact hk 2
set_option maxHeartbeats 8000000 in
set_option maxRecDepth 100000 in
theorem changes_any (n0 n1 n2 r0 r1 r2 : Int) (A : Option Addr) (len cap : Nat) (ls : List Int) (w : World) (nf rf : Nat → Int) (hn : nf 0 = n0 ∧ nf 1 = n1 ∧ nf 2 = n2) (hrr : rf 0 = r0 ∧ rf 1 = r1 ∧ rf 2 = r2) (hnb : ∀ t, -128 ≤ nf t ∧ nf t ≤ 127) (hrb : ∀ t, 0 ≤ rf t ∧ rf t ≤ 255) (hl : ls.length = len) (hlb : ∀ x ∈ ls, 0 ≤ x ∧ x ≤ 255) (h150 : len ≤ 150) (hr : Rd w w.heap.size 1 A len (ls.map (Value.int .u8))) :
    Calls Try.prog 3 #[.agg #[.int .i8 n0, .int .i8 n1, .int .i8 n2], .agg #[.int .u8 r0, .int .u8 r1, .int .u8 r2], .slice A len cap] w fun e w' => e = .returned (.bool true) ∧ Below w.heap.size w w' := by
  obtain ⟨rfl, rfl, rfl⟩ := hn
  obtain ⟨rfl, rfl, rfl⟩ := hrr
  obtain ⟨i0, hi0, jz0, jz1, jz2⟩ := info_parts info_code
  have hi := hide hi0
  have iz0 := hide jz0
  have iz1 := hide jz1
  have iz2 := hide jz2
  clear hi0 jz0 jz1 jz2
  have hg1 : ¬ ((len : Int) > 150) := by omega
  have hg2 : ¬ ((150 : Int) < len) := by omega
  have Hl := hide hl
  have Hr := hide hr
  have Hnb := hide hnb
  have Hrb := hide hrb
  have Hlb := hide hlb
  clear hl hr hnb hrb hlb
  go_enter Try.func3, Try.ntmps3
  go_upto_region 7 with (first
    | (go_at_call 4; refine (awake52_any _).mono ?_; rintro e w1 ⟨rfl, hb1⟩; obtain ⟨hcc1, hff1⟩ := bcell hb1; have hs1 := hb1.size; (try simp at hs1); have hz10 : w.heap.size < w1.heap.size := (by omega); have hz11 : w.heap.size + 1 < w1.heap.size := (by omega))
    | (go_at_call 5; refine (mach_new 3 1 (some ⟨w1.heap.size, 0, none⟩) 1 [z3] _ rfl (rd_alloc _ _ _ rfl) (by decide) (by decide) (by decide) (by decide)).mono ?_; rintro e w2 ⟨M, rfl, hfr, hMR, hMO, hb2⟩; obtain ⟨hcc2, hff2⟩ := bcell hb2; have hs2 := hb2.size; (try simp at hs2); have hz20 : w.heap.size < w2.heap.size := (by omega); have hz21 : w.heap.size + 1 < w2.heap.size := (by omega); have Hfr := hide hfr; have HMR := hide hMR; have HMO := hide hMO; clear hfr hMR hMO))
  obtain ⟨w3, hw3⟩ : ∃ W : World, W = w2.alloc (.cells #[.slice M.mem.pA M.mem.hs.length M.mem.pc, .slice M.mem.vA M.mem.vs.length M.mem.vc, .slice M.ln.fA M.ln.first.length M.ln.fc, .slice M.ln.lA M.ln.logs.length M.ln.lc, .map M.ln.asks, .slice M.sA M.steps.length M.sc, .int .i64 M.crashes] 38) := ⟨_, rfl⟩
  have hs3 : w2.heap.size + 1 ≤ w3.heap.size := by rw [hw3]; simp
  have hXM : BoxC w2.heap.size [.slice M.mem.pA M.mem.hs.length M.mem.pc, .slice M.mem.vA M.mem.vs.length M.mem.vc, .slice M.ln.fA M.ln.first.length M.ln.fc, .slice M.ln.lA M.ln.logs.length M.ln.lc, .map M.ln.asks, .slice M.sA M.steps.length M.sc, .int .i64 M.crashes] w3 := by rw [hw3]; exact BoxC.made _ _ _
  have a0 : w3.cell? ⟨w.heap.size, 0, none⟩ = some (.int .i8 (nf 0)) := by rw [hw3]; go_simp
  have a1 : w3.cell? ⟨w.heap.size, 1, none⟩ = some (.int .i8 (nf 1)) := by rw [hw3]; go_simp
  have a2 : w3.cell? ⟨w.heap.size, 2, none⟩ = some (.int .i8 (nf 2)) := by rw [hw3]; go_simp
  have e0 : w3.cell? ⟨w.heap.size + 1, 0, none⟩ = some (.int .u8 (rf 0)) := by rw [hw3]; go_simp
  have e1 : w3.cell? ⟨w.heap.size + 1, 1, none⟩ = some (.int .u8 (rf 1)) := by rw [hw3]; go_simp
  have e2 : w3.cell? ⟨w.heap.size + 1, 2, none⟩ = some (.int .u8 (rf 2)) := by rw [hw3]; go_simp
  have hB3 : Below w.heap.size w w3 := by rw [hw3]; exact (by repeat' (first | with_reducible exact Below.refl _ _ | with_reducible assumption | with_reducible refine Below.alloc ?_ ?_ _ | with_reducible refine Below.setCell ?_ ?_ _ | with_reducible refine Below.drew ?_ | with_reducible refine below_drewN ?_ _ | with_reducible refine Below.trans ?_ (Below.mono (by with_reducible assumption) ?_) | omega | (simp <;> omega)))
  have HMR3 := hide (HMR.out.below (w' := w3) (by rw [hw3]; exact (by repeat' (first | with_reducible exact Below.refl _ _ | with_reducible assumption | with_reducible refine Below.alloc ?_ ?_ _ | with_reducible refine Below.setCell ?_ ?_ _ | with_reducible refine Below.drew ?_ | with_reducible refine below_drewN ?_ _ | with_reducible refine Below.trans ?_ (Below.mono (by with_reducible assumption) ?_) | omega | (simp <;> omega)))))
  have hA3 : Hid (∀ t, t < 3 → w3.cell? ⟨w.heap.size, t, none⟩ = some (.int .i8 (nf t))) := hide (fun t ht => by
    have h3 : t = 0 ∨ t = 1 ∨ t = 2 := by omega
    rcases h3 with rfl | rfl | rfl
    · exact a0
    · exact a1
    · exact a2)
  have hE3 : Hid (∀ t, t < 3 → w3.cell? ⟨w.heap.size + 1, t, none⟩ = some (.int .u8 (rf t))) := hide (fun t ht => by
    have h3 : t = 0 ∨ t = 1 ∨ t = 2 := by omega
    rcases h3 with rfl | rfl | rfl
    · exact e0
    · exact e1
    · exact e2)
  rw [← hw3]
  clear hw3 hcc1 hff1 hb1 hcc2 hff2 hb2 a0 a1 a2 e0 e1 e2
  have HXM := hide hXM
  clear hXM
  go_wp2_with fail
  go_loopw [11, 9, 10] (fun i v9 v10 wr => ∃ k : Nat, i = .int .i64 k ∧ k ≤ 3 ∧ wr.ownsRow w3.heap.size 47 1 v9 k ((List.range k).map (plainV nf)) ∧ wr.ownsRow w3.heap.size 47 1 v10 k ((List.range k).map (wrapV nf rf)) ∧ Hid (∀ b, v10.ownBlock = some b → v9.ownBlock ≠ some b) ∧ Below w3.heap.size w3 wr) (fun i _ _ _ => 3 - (intOf i).toNat)
  case atStart => exact ⟨0, rfl, by omega, World.ownsRow_nil _ _ _ _, World.ownsRow_nil _ _ _ _, hide (fun b e => by cases e), Below.refl _ _⟩
  case round =>
    obtain ⟨k, rfl, hk, h9, h10, hne, hB⟩ := hrel
    have hsr := hB.size
    by_cases hlt : (k : Int) < 3
    · have hk3 : k < 3 := by omega
      have x0 := (hB.cell (p := ⟨w.heap.size, k, none⟩) (by show w.heap.size < w3.heap.size; omega)).trans (hA3.out k hk3)
      have x1 := (hB.cell (p := ⟨w.heap.size + 1, k, none⟩) (by show w.heap.size + 1 < w3.heap.size; omega)).trans (hE3.out k hk3)
      obtain ⟨hnl, hnh⟩ := Hnb.out k
      obtain ⟨hrl, hrh⟩ := Hrb.out k
      have j0 : (0 : Int) ≤ (k : Int) := by omega
      have H9 := hide h9
      have H10 := hide h10
      have hzr0 : w.heap.size < wr.heap.size := by omega
      have hzr1 : w.heap.size + 1 < wr.heap.size := by omega
      obtain ⟨A9, c9, rfl, hc9, hA9⟩ := own_slice h9
      obtain ⟨A10, c10, rfl, hc10, hA10⟩ := own_slice h10
      clear h9 h10
      go_upto_region 14 with (first
        | (go_at_call 6; refine (code_any (nf k) _ hnl hnh).mono ?_; rintro e w4 ⟨rfl, hb4⟩; have hs4 := hb4.size; have hzr4 : w.heap.size + 1 < w4.heap.size := (by omega))
        | (at_builtin; refine wpList_append_rd2 rfl _ _ 45 rfl w3.heap.size 47 i0 _ 1 16 Try.underlying45 hi.out iz0.out iz1.out iz2.out rfl (by decide) (.slice A9 k c9) k ((List.range k).map (plainV nf)) rfl (own_below H9.out ((by repeat' (first | with_reducible exact Below.refl _ _ | with_reducible assumption | with_reducible refine Below.alloc ?_ ?_ _ | with_reducible refine Below.setCell ?_ ?_ _ | with_reducible refine Below.drew ?_ | with_reducible refine below_drewN ?_ _ | with_reducible refine Below.trans ?_ (Below.mono (by with_reducible assumption) ?_) | omega | (simp <;> omega))))) (some ⟨w4.heap.size, 0, none⟩) 1 1 [plainV nf k] rfl _ (rd_alloc _ _ _ rfl) (by intro u hu; rw [List.mem_singleton.1 hu]; rfl) (by unfold maxLen; omega) (by omega) (by first | omega | (simp; done) | (simp; omega)) w3.heap.size wr ((by repeat' (first | with_reducible exact Below.refl _ _ | with_reducible assumption | with_reducible refine Below.alloc ?_ ?_ _ | with_reducible refine Below.setCell ?_ ?_ _ | with_reducible refine Below.drew ?_ | with_reducible refine below_drewN ?_ _ | with_reducible refine Below.trans ?_ (Below.mono (by with_reducible assumption) ?_) | omega | (simp <;> omega)))) (Nat.le_refl _) ?_; intro v5 w5 how5 hb5 hz5 hst5; obtain ⟨g5, c5, rfl, hc5, hg5, -⟩ := own_some how5 (by omega); have How5 := hide how5; clear how5; (try simp at hz5)))
      have hB5 : Below w3.heap.size w3 w5 := hB.trans (hb5.mono (by omega))
      have y1 := (hb5.cell (p := ⟨w.heap.size + 1, k, none⟩) (by show w.heap.size + 1 < w3.heap.size; omega)).trans x1
      have hz5w : w.heap.size + 1 < w5.heap.size := by omega
      have hd5 : Hid (∀ b, (Value.slice A10 k c10).ownBlock = some b → (Value.slice (some ⟨g5, 0, none⟩) (k + 1) c5).ownBlock ≠ some b) := hide (fun b hb => (hst5.out b (by have := (H10.out.lt b hb).2; (first | omega | (simp; omega))) (hne.out b hb)).1)
      have H10' := hide (own_stay (own_below H10.out (w' := w4.alloc (.cells #[plainV nf k] 47)) (hb4.alloc (by first | omega | (simp; omega)) _)) (fun b hb hx => (hst5.out b hb hx).2) hne.out)
      have hm5 : many (IntKind.i64.wrap ((rf k).tmod 5)) = rf k % 5 := by
        rw [Int.tmod_eq_emod_of_nonneg hrl, IntWalk.i64_in _ (by omega)]
        unfold many
        omega
      have hm3 : many (IntKind.i64.wrap ((rf k).tmod 3)) = rf k % 3 := by
        rw [Int.tmod_eq_emod_of_nonneg hrl, IntWalk.i64_in _ (by omega)]
        unfold many
        omega
      have Hm5 := hide hm5
      have Hm3 := hide hm3
      clear hb5 x0 x1 hm5 hm3 hb4 hB
      refine wp_region_held_drew (S := (fun w' => w'.cell? ⟨w.heap.size + 1, k, none⟩ = some (.int .u8 (rf k)))) (by kernel_rfl) (by first | with_reducible exact y1 | with_reducible exact y8 | go_simp) (fun hHeld => ?_)
      refine wpAnyH_take (i := 0) (v := ?_) (oi := { dst := some 59, op := Op.move (Operand.tmp 10), type := 45, pos := "law.go:145", after := #[], guard := none }) (by rfl) (by kernel_rfl) (by kernel_rfl) (by kernel_rfl) (fun _ _ _ h => h) (Or.inl ⟨by rfl, ?_⟩) (by assumption) ?_; rotate_left; focus (intro wTk hSw; (try dsimp only at hSw); go_simp; (try with_reducible rfl); done)
      (try simp only [Act.put, List.setIfInBounds_toArray, List.set_cons_zero, List.set_cons_succ])
      refine wpAnyH_take (i := 1) (v := ?_) (oi := { dst := some 60, op := Op.move (Operand.tmp 12), type := 47, pos := "law.go:145", after := #[], guard := none }) (by rfl) (by kernel_rfl) (by kernel_rfl) (by kernel_rfl) (fun _ _ _ h => h) (Or.inl ⟨by rfl, ?_⟩) (by assumption) ?_; rotate_left; focus (intro wTk hSw; (try dsimp only at hSw); go_simp; (try with_reducible rfl); done)
      (try simp only [Act.put, List.setIfInBounds_toArray, List.set_cons_zero, List.set_cons_succ])
      refine wpAnyH_take (i := 2) (v := ?_) (oi := { dst := some 61, op := Op.move (Operand.tmp 11), type := 3, pos := "law.go:145", after := #[], guard := none }) (by rfl) (by kernel_rfl) (by kernel_rfl) (by kernel_rfl) (fun _ _ _ h => h) (Or.inl ⟨by rfl, ?_⟩) (by assumption) ?_; rotate_left; focus (intro wTk hSw; (try dsimp only at hSw); go_simp; (try with_reducible rfl); done)
      (try simp only [Act.put, List.setIfInBounds_toArray, List.set_cons_zero, List.set_cons_succ])
      refine wpAnyH_take (i := 3) (v := ?_) (oi := { dst := some 62, op := Op.indexAddr 24 (Operand.tmp 4) (Operand.tmp 61), type := 0, pos := "law.go:145", after := #[{ on := 2, ground := Ground.data }], guard := none }) (by rfl) (by kernel_rfl) (by kernel_rfl) (by kernel_rfl) (fun _ _ _ h => h) (Or.inl ⟨by rfl, ?_⟩) (by assumption) ?_; rotate_left; focus (intro wTk hSw; (try dsimp only at hSw); go_simp; (try with_reducible rfl); done)
      (try simp only [Act.put, List.setIfInBounds_toArray, List.set_cons_zero, List.set_cons_succ])
      refine wpAnyH_take (i := 4) (v := ?_) (oi := { dst := some 63, op := Op.load 5 (Operand.tmp 62), type := 5, pos := "law.go:145", after := #[{ on := 3, ground := Ground.data }], guard := none }) (by rfl) (by kernel_rfl) (by kernel_rfl) (by kernel_rfl) (fun _ _ _ h => h) (Or.inl ⟨by rfl, ?_⟩) (by assumption) ?_; rotate_left; focus (intro wTk hSw; (try dsimp only at hSw); go_simp; (try with_reducible rfl); done)
      (try simp only [Act.put, List.setIfInBounds_toArray, List.set_cons_zero, List.set_cons_succ])
      refine wpAnyH_take (i := 5) (v := ?_) (oi := { dst := some 64, op := Op.binOp BinOp.rem 5 (Operand.tmp 63) (Operand.const (Value.int IntKind.u8 5)) 5, type := 5, pos := "law.go:145", after := #[{ on := 4, ground := Ground.data }], guard := none }) (by rfl) (by kernel_rfl) (by kernel_rfl) (by kernel_rfl) (fun _ _ _ h => h) (Or.inl ⟨by rfl, ?_⟩) (by assumption) ?_; rotate_left; focus (intro wTk hSw; (try dsimp only at hSw); go_simp; (try with_reducible rfl); done)
      (try simp only [Act.put, List.setIfInBounds_toArray, List.set_cons_zero, List.set_cons_succ])
      refine wpAnyH_take (i := 6) (v := ?_) (oi := { dst := some 65, op := Op.convert 5 3 (Operand.tmp 64), type := 3, pos := "law.go:145", after := #[{ on := 5, ground := Ground.data }], guard := none }) (by rfl) (by kernel_rfl) (by kernel_rfl) (by kernel_rfl) (fun _ _ _ h => h) (Or.inl ⟨by rfl, ?_⟩) (by assumption) ?_; rotate_left; focus (intro wTk hSw; (try dsimp only at hSw); go_simp; (try with_reducible rfl); done)
      (try simp only [Act.put, List.setIfInBounds_toArray, List.set_cons_zero, List.set_cons_succ])
      refine wpAnyH_take (i := 8) (v := ?_) (oi := { dst := some 67, op := Op.move (Operand.tmp 11), type := 3, pos := "law.go:145", after := #[], guard := none }) (by rfl) (by kernel_rfl) (by kernel_rfl) (by kernel_rfl) (fun _ _ _ h => h) (Or.inl ⟨by rfl, ?_⟩) (by assumption) ?_; rotate_left; focus (intro wTk hSw; (try dsimp only at hSw); go_simp; (try with_reducible rfl); done)
      (try simp only [Act.put, List.setIfInBounds_toArray, List.set_cons_zero, List.set_cons_succ])
      refine wpAnyH_take (i := 9) (v := ?_) (oi := { dst := some 68, op := Op.indexAddr 24 (Operand.tmp 4) (Operand.tmp 67), type := 0, pos := "law.go:145", after := #[{ on := 8, ground := Ground.data }], guard := none }) (by rfl) (by kernel_rfl) (by kernel_rfl) (by kernel_rfl) (fun _ _ _ h => h) (Or.inl ⟨by rfl, ?_⟩) (by assumption) ?_; rotate_left; focus (intro wTk hSw; (try dsimp only at hSw); go_simp; (try with_reducible rfl); done)
      (try simp only [Act.put, List.setIfInBounds_toArray, List.set_cons_zero, List.set_cons_succ])
      refine wpAnyH_take (i := 10) (v := ?_) (oi := { dst := some 69, op := Op.load 5 (Operand.tmp 68), type := 5, pos := "law.go:145", after := #[{ on := 9, ground := Ground.data }], guard := none }) (by rfl) (by kernel_rfl) (by kernel_rfl) (by kernel_rfl) (fun _ _ _ h => h) (Or.inl ⟨by rfl, ?_⟩) (by assumption) ?_; rotate_left; focus (intro wTk hSw; (try dsimp only at hSw); go_simp; (try with_reducible rfl); done)
      (try simp only [Act.put, List.setIfInBounds_toArray, List.set_cons_zero, List.set_cons_succ])
      refine wpAnyH_take (i := 11) (v := ?_) (oi := { dst := some 70, op := Op.binOp BinOp.rem 5 (Operand.tmp 69) (Operand.const (Value.int IntKind.u8 3)) 5, type := 5, pos := "law.go:145", after := #[{ on := 10, ground := Ground.data }], guard := none }) (by rfl) (by kernel_rfl) (by kernel_rfl) (by kernel_rfl) (fun _ _ _ h => h) (Or.inl ⟨by rfl, ?_⟩) (by assumption) ?_; rotate_left; focus (intro wTk hSw; (try dsimp only at hSw); go_simp; (try with_reducible rfl); done)
      (try simp only [Act.put, List.setIfInBounds_toArray, List.set_cons_zero, List.set_cons_succ])
      refine wpAnyH_take (i := 12) (v := ?_) (oi := { dst := some 71, op := Op.convert 5 3 (Operand.tmp 70), type := 3, pos := "law.go:145", after := #[{ on := 11, ground := Ground.data }], guard := none }) (by rfl) (by kernel_rfl) (by kernel_rfl) (by kernel_rfl) (fun _ _ _ h => h) (Or.inl ⟨by rfl, ?_⟩) (by assumption) ?_; rotate_left; focus (intro wTk hSw; (try dsimp only at hSw); go_simp; (try with_reducible rfl); done)
      (try simp only [Act.put, List.setIfInBounds_toArray, List.set_cons_zero, List.set_cons_succ])
      refine wpAnyH_ready (rs := [7]) (by kernel_rfl) (by simp) ?_
      refine AllReadyH.cons (o := { dst := some 66, op := Op.call { callee := Callee.value (Operand.func 7), args := #[Operand.tmp 60, Operand.tmp 65], argTypes := #[47, 3] }, type := 47, pos := "law.go:145", after := #[{ on := 1, ground := Ground.data }, { on := 6, ground := Ground.data }], guard := none }) (by rfl) (fun K hK => ?_) (AllReadyH.nil)
      go_simp
      (go_at_call 7; refine (wrap_any 104 _ _ _ codeT_code).mono ?_; rintro e w6 ⟨rfl, rfl⟩)
      go_wp2_with fail
      refine hK.out _ _ (by first | with_reducible exact y1 | with_reducible exact y8 | go_simp) (fun hHeld => ?_)
      clear hK K
      (try simp only [Act.put, List.setIfInBounds_toArray, List.set_cons_zero, List.set_cons_succ])
      refine wpAnyH_ready (rs := [13]) (by kernel_rfl) (by simp) ?_
      refine AllReadyH.cons (o := { dst := some 72, op := Op.call { callee := Callee.value (Operand.func 7), args := #[Operand.tmp 66, Operand.tmp 71], argTypes := #[47, 3] }, type := 47, pos := "law.go:145", after := #[{ on := 7, ground := Ground.data }, { on := 12, ground := Ground.data }, { on := 7, ground := Ground.chain }], guard := none }) (by rfl) (fun K hK => ?_) (AllReadyH.nil)
      go_simp
      (go_at_call 7; refine (wrap_any 95 _ _ _ codeT_wr).mono ?_; rintro e w7 ⟨rfl, rfl⟩)
      go_wp2_with fail
      refine hK.out _ _ (by first | with_reducible exact y1 | with_reducible exact y8 | go_simp) (fun hHeld => ?_)
      clear hK K
      (try simp only [Act.put, List.setIfInBounds_toArray, List.set_cons_zero, List.set_cons_succ])
      refine wpAnyH_ready (rs := [14]) (by kernel_rfl) (by simp) ?_
      refine AllReadyH.cons (o := { dst := some 73, op := Op.buildSlice 45 1 #[(0, Operand.tmp 72)], type := 45, pos := "law.go:145", after := #[{ on := 13, ground := Ground.data }], guard := none }) (by rfl) (fun K hK => ?_) (AllReadyH.nil)
      go_simp
      skip
      go_wp2_with fail
      refine hK.out _ _ (by first | with_reducible exact y1 | with_reducible exact y8 | go_simp) (fun hHeld => ?_)
      clear hK K
      (try simp only [Act.put, List.setIfInBounds_toArray, List.set_cons_zero, List.set_cons_succ])
      refine wpAnyH_ready (rs := [15]) (by kernel_rfl) (by simp) ?_
      refine AllReadyH.cons (o := { dst := some 74, op := Op.call { callee := Callee.builtin Builtin.append, args := #[Operand.tmp 59, Operand.tmp 73], argTypes := #[45, 45] }, type := 45, pos := "law.go:145", after := #[{ on := 0, ground := Ground.data }, { on := 14, ground := Ground.data }, { on := 13, ground := Ground.chain }], guard := none }) (by rfl) (fun K hK => ?_) (AllReadyH.nil)
      refine wp_append_own (.tmp 59) (.tmp 73) 45 rfl w3.heap.size 47 i0 _ 1 16 Try.underlying45 hi.out iz0.out iz1.out iz2.out rfl (by decide) (.slice A10 k c10) k ((List.range k).map (wrapV nf rf)) (by simp [Act.eval, Act.put]) (own_below H10'.out ((by repeat' (first | with_reducible exact Below.refl _ _ | with_reducible assumption | with_reducible refine Below.alloc ?_ ?_ _ | with_reducible refine Below.setCell ?_ ?_ _ | with_reducible refine Below.drew ?_ | with_reducible refine below_drewN ?_ _ | with_reducible refine Below.trans ?_ (Below.mono (by with_reducible assumption) ?_) | omega | (simp <;> omega))))) ⟨w5.heap.size, 0, none⟩ 1 [wrapV nf rf k] (by simp [Act.eval, Act.put]) rfl ?_ (by intro u hu; rw [List.mem_singleton.1 hu]; rfl) (by unfold maxLen; omega) (by omega) (by first | omega | (simp; done) | (simp; omega)) w3.heap.size w3 ((by repeat' (first | with_reducible exact Below.refl _ _ | with_reducible assumption | with_reducible refine Below.alloc ?_ ?_ _ | with_reducible refine Below.setCell ?_ ?_ _ | with_reducible refine Below.drew ?_ | with_reducible refine below_drewN ?_ _ | with_reducible refine Below.trans ?_ (Below.mono (by with_reducible assumption) ?_) | omega | (simp <;> omega)))) (Nat.le_refl _) ?_; (focus (intro j u hu; refine alloc_cell _ _ _ (by first | omega | (simp; done) | (simp; omega)) ?_; rw [Hm5.out, Hm3.out]; exact hu)); intro v8 w8 how8 hb8 hz8 hst8; obtain ⟨g8, c8, rfl, hc8, hg8, -⟩ := own_some how8.out (by omega); (try simp at hz8); have y8 := (hb8.cell (p := ⟨w.heap.size + 1, k, none⟩) (by show w.heap.size + 1 < w3.heap.size; omega)).trans (hE3.out k hk3)
      (try go_simp)
      skip
      go_wp2_with fail
      refine hK.out _ _ (by first | with_reducible exact y1 | with_reducible exact y8 | go_simp) (fun hHeld => ?_)
      clear hK K
      (try simp only [Act.put, List.setIfInBounds_toArray, List.set_cons_zero, List.set_cons_succ])
      refine wpAnyH_take (i := 16) (v := ?_) (oi := { dst := some 10, op := Op.assign (Operand.tmp 74), type := 45, pos := "law.go:145", after := #[{ on := 15, ground := Ground.data }, { on := 15, ground := Ground.chain }, { on := 0, ground := Ground.phase }, { on := 1, ground := Ground.phase }, { on := 2, ground := Ground.phase }, { on := 3, ground := Ground.phase }, { on := 4, ground := Ground.phase }, { on := 5, ground := Ground.phase }, { on := 6, ground := Ground.phase }, { on := 7, ground := Ground.phase }, { on := 8, ground := Ground.phase }, { on := 9, ground := Ground.phase }, { on := 10, ground := Ground.phase }, { on := 11, ground := Ground.phase }, { on := 12, ground := Ground.phase }, { on := 13, ground := Ground.phase }, { on := 14, ground := Ground.phase }, { on := 15, ground := Ground.phase }], guard := none }) (by rfl) (by kernel_rfl) (by kernel_rfl) (by kernel_rfl) (fun _ _ _ h => h) (Or.inl ⟨by rfl, ?_⟩) (by assumption) ?_; rotate_left; focus (intro wTk hSw; (try dsimp only at hSw); go_simp; (try with_reducible rfl); done)
      (try simp only [Act.put, List.setIfInBounds_toArray, List.set_cons_zero, List.set_cons_succ])
      refine wpAnyH_done (by kernel_rfl) ?_ _
      all_goals go_wp2_with fail
      all_goals have hnd : ∀ b, (Value.slice (some ⟨g5, 0, none⟩) (k + 1) c5).ownBlock = some b → (Value.slice A10 k c10).ownBlock ≠ some b := fun b h1 h2 => hd5.out b h2 h1
      all_goals have h9n := own_stay (own_below How5.out (by first | exact Below.alloc (Below.refl _ _) (Nat.le_refl _) _ | exact (Below.alloc (Below.refl _ _) (Nat.le_refl _) _).drew)) (fun b hb hx => (hst8.out b hb hx).2) hnd
      all_goals have hg5l := (How5.out.lt g5 rfl).2
      all_goals refine ⟨⟨k + 1, by go_num, by omega, ?_, ?_, hide (fun b h1 h2 => ?_), hb8⟩, by simp [intOf]; omega⟩
      all_goals first
        | (rw [List.range_succ, List.map_append]; exact h9n)
        | (rw [List.range_succ, List.map_append]; exact how8.out)
        | (obtain rfl : g5 = b := by injection h2
           exact (hst8.out g5 (by first | omega | (simp; omega)) (hnd g5 rfl)).1 h1)
    · obtain rfl : k = 3 := by omega
      obtain ⟨g9, c9, rfl, hc9, hg9, hr9⟩ := own_some h9 (by omega)
      obtain ⟨g10, c10, rfl, hc10, hg10, hr10⟩ := own_some h10 (by omega)
      obtain ⟨ka, kb, hks⟩ := law_starts nf rf (fun t => Hrb.out t)
      have Hks := hide hks
      have H9 := hide hr9
      have H10 := hide hr10
      have hMv : M.mem.vs.length = 3 := (last_fresh Hfr.out).2.1
      have hmk1 := fun W (hR : M.R W) (h : Rd W W.heap.size 1 (some ⟨g9, 0, none⟩) 3 ((List.range 3).map (plainV nf))) => task_make M (some ⟨g9, 0, none⟩) 3 c9 _ [ka 0, ka 1, ka 2] W hR (by omega) (by omega) (by omega) h rfl (three_mem (fun t => (Hks.out t).1)) (fun j c k W2 hc hk => by
        obtain ⟨hj, rfl⟩ := range3_at hc
        obtain rfl := three_at hk
        exact (Hks.out j).2.2.1 W2)
      have hmk2 := fun W (hR : M.R W) (h : Rd W W.heap.size 1 (some ⟨g10, 0, none⟩) 3 ((List.range 3).map (wrapV nf rf))) => task_make M (some ⟨g10, 0, none⟩) 3 c10 _ [kb 0, kb 1, kb 2] W hR (by omega) (by omega) (by omega) h rfl (three_mem (fun t => (Hks.out t).2.1)) (fun j c k W2 hc hk => by
        obtain ⟨hj, rfl⟩ := range3_at hc
        obtain rfl := three_at hk
        exact (Hks.out j).2.2.2.1 W2)
      have Hmk1 := hide hmk1
      have Hmk2 := hide hmk2
      have hMR := hide (HMR3.out.below hB)
      have hXr := HXM.out.below hB
      have hsr := hB.size
      have m0 := hXr.at (j := 0) rfl
      have m1 := hXr.at (j := 1) rfl
      have m2 := hXr.at (j := 2) rfl
      have m3 := hXr.at (j := 3) rfl
      have m4 := hXr.at (j := 4) rfl
      have m5 := hXr.at (j := 5) rfl
      have m6 := hXr.at (j := 6) rfl
      have hzM : w2.heap.size < wr.heap.size := by omega
      have hBr : Below w.heap.size w wr := hB3.trans (hB.mono (by omega))
      clear h9 h10 hr9 hr10 hne hmk1 hmk2 hks hXr hMv
      go_upto_region 16 with (first
        | (go_at_call 8; refine (Hmk1.out _ hMR.out H9.out).mono ?_; rintro e wa ⟨Va, rfl, hVa1, hVa2, hVa3, hVaR, hVaO, hba⟩; obtain ⟨hcca, hffa⟩ := bcell hba; have hsa := hba.size; have hzMa : w2.heap.size < wa.heap.size := (by omega); have HVa := hide (And.intro hVa1 (And.intro hVa2 hVa3)); have HVaR := hide hVaR; clear hVa1 hVa2 hVa3 hVaR hVaO))
      go_upto_region 17 with (first
        | (go_at_call 8; refine (Hmk2.out _ (hMR.out.below ((by repeat' (first | with_reducible exact Below.refl _ _ | with_reducible assumption | with_reducible refine Below.alloc ?_ ?_ _ | with_reducible refine Below.setCell ?_ ?_ _ | with_reducible refine Below.drew ?_ | with_reducible refine below_drewN ?_ _ | with_reducible refine Below.trans ?_ (Below.mono (by with_reducible assumption) ?_) | omega | (simp <;> omega))))) ((H10.out.below ((by repeat' (first | with_reducible exact Below.refl _ _ | with_reducible assumption | with_reducible refine Below.alloc ?_ ?_ _ | with_reducible refine Below.setCell ?_ ?_ _ | with_reducible refine Below.drew ?_ | with_reducible refine below_drewN ?_ _ | with_reducible refine Below.trans ?_ (Below.mono (by with_reducible assumption) ?_) | omega | (simp <;> omega))))).more (by first | omega | (simp; done) | (simp; omega)))).mono ?_; rintro e wb ⟨Vb, rfl, hVb1, hVb2, hVb3, hVbR, hVbO, hbb⟩; have hsb := hbb.size; (try simp at hsb); have HVb := hide (And.intro hVb1 (And.intro hVb2 hVb3)); have HVbR := hide hVbR; have HVbO := hide hVbO; clear hVb1 hVb2 hVb3 hVbR hVbO))
      -- BEHIND
      have hBa1 : Below wr.heap.size wr wa := by with_reducible exact hba
      have hwb : Below wa.heap.size wa wb := (Below.alloc (Below.refl wa.heap.size wa) (Nat.le_refl _) _).trans (hbb.mono (by simp))
      obtain ⟨wc, hwc⟩ : ∃ W : World, W = wb.alloc (.cells #[.slice Vb.M.mem.pA Vb.M.mem.hs.length Vb.M.mem.pc, .slice Vb.M.mem.vA Vb.M.mem.vs.length Vb.M.mem.vc, .slice Vb.M.ln.fA Vb.M.ln.first.length Vb.M.ln.fc, .slice Vb.M.ln.lA Vb.M.ln.logs.length Vb.M.ln.lc, .map Vb.M.ln.asks, .slice Vb.M.sA Vb.M.steps.length Vb.M.sc, .int .i64 Vb.M.crashes, .slice Vb.tA Vb.ts.length Vb.tc, .slice Vb.sA Vb.ss.length Vb.sc] 54) := ⟨_, rfl⟩
      have hXb : BoxC wb.heap.size [.slice Vb.M.mem.pA Vb.M.mem.hs.length Vb.M.mem.pc, .slice Vb.M.mem.vA Vb.M.mem.vs.length Vb.M.mem.vc, .slice Vb.M.ln.fA Vb.M.ln.first.length Vb.M.ln.fc, .slice Vb.M.ln.lA Vb.M.ln.logs.length Vb.M.ln.lc, .map Vb.M.ln.asks, .slice Vb.M.sA Vb.M.steps.length Vb.M.sc, .int .i64 Vb.M.crashes, .slice Vb.tA Vb.ts.length Vb.tc, .slice Vb.sA Vb.ss.length Vb.sc] wc := by rw [hwc]; exact BoxC.made _ _ _
      have hXa : BoxC wa.heap.size [.slice Va.M.mem.pA Va.M.mem.hs.length Va.M.mem.pc, .slice Va.M.mem.vA Va.M.mem.vs.length Va.M.mem.vc, .slice Va.M.ln.fA Va.M.ln.first.length Va.M.ln.fc, .slice Va.M.ln.lA Va.M.ln.logs.length Va.M.ln.lc, .map Va.M.ln.asks, .slice Va.M.sA Va.M.steps.length Va.M.sc, .int .i64 Va.M.crashes, .slice Va.tA Va.ts.length Va.tc, .slice Va.sA Va.ss.length Va.sc] wc := by
        rw [hwc]
        exact ((BoxC.made wa #[.slice Va.M.mem.pA Va.M.mem.hs.length Va.M.mem.pc, .slice Va.M.mem.vA Va.M.mem.vs.length Va.M.mem.vc, .slice Va.M.ln.fA Va.M.ln.first.length Va.M.ln.fc, .slice Va.M.ln.lA Va.M.ln.logs.length Va.M.ln.lc, .map Va.M.ln.asks, .slice Va.M.sA Va.M.steps.length Va.M.sc, .int .i64 Va.M.crashes, .slice Va.tA Va.ts.length Va.tc, .slice Va.sA Va.ss.length Va.sc] 54).below hbb).below (Below.alloc (Below.refl _ _) (Nat.le_refl _) _)
      have hsc : wb.heap.size + 1 ≤ wc.heap.size := by rw [hwc]; simp
      have hBac : Below wa.heap.size wa wc := by rw [hwc]; exact hwb.alloc hwb.size _
      have hBbc : Below wb.heap.size wb wc := by rw [hwc]; exact Below.alloc (Below.refl _ _) (Nat.le_refl _) _
      have hsw : wa.heap.size + 1 ≤ wb.heap.size := by first | omega | (simp at hsb; omega)
      rw [← hwc]
      have HXa := hide hXa
      have HXb := hide hXb
      have HRa := hide (HVaR.out.below hBac)
      have HRb := hide (HVbR.out.below hBbc)
      have oaa := hide (WorldV.off_new HVaR.out (C := wa.heap.size) (Nat.le_refl _))
      have oab := hide (WorldV.off_new HVaR.out (C := wb.heap.size) (by omega))
      have obb := hide (WorldV.off_new HVbR.out (C := wb.heap.size) (Nat.le_refl _))
      have oba := hide (HVbO.out wa.heap.size (by simp) (MachV.off_new HMR3.out (by omega)))
      have hBc : Below w.heap.size w wc := hBr.trans ((hBa1.trans (hBac.mono hBa1.size)).mono (by omega))
      have hTwo := two_made (n := nf) (left := leftF rf) Hfr.out HVa.out.1 HVb.out.1 HVa.out.2.1 HVb.out.2.1 HVa.out.2.2 HVb.out.2.2 (fun t _ => (Hks.out t).1) (fun t _ => (Hks.out t).2.1) (fun t _ => (Hks.out t).2.2.2.2)
      have HTwo := hide hTwo
      have hEc : Hid (∀ t, t < 3 → wc.cell? ⟨w.heap.size + 1, t, none⟩ = some (.int .u8 (rf t))) := hide (fun t ht => by
        have q1 : wr.cell? ⟨w.heap.size + 1, t, none⟩ = w3.cell? ⟨w.heap.size + 1, t, none⟩ := hB.cell (p := ⟨w.heap.size + 1, t, none⟩) (by show w.heap.size + 1 < w3.heap.size; omega)
        have q2 : wa.cell? ⟨w.heap.size + 1, t, none⟩ = wr.cell? ⟨w.heap.size + 1, t, none⟩ := hBa1.cell (p := ⟨w.heap.size + 1, t, none⟩) (by show w.heap.size + 1 < wr.heap.size; omega)
        have q3 : wc.cell? ⟨w.heap.size + 1, t, none⟩ = wa.cell? ⟨w.heap.size + 1, t, none⟩ := hBac.cell (p := ⟨w.heap.size + 1, t, none⟩) (by show w.heap.size + 1 < wa.heap.size; omega)
        exact ((q3.trans q2).trans q1).trans (hE3.out t ht))
      clear hwc hXa hXb hTwo hbb hba hcca hffa m0 m1 m2 m3 m4 m5 m6
      go_wp2_with fail
      obtain ⟨wd, hwd⟩ : ∃ W : World, W = wc.alloc (.cells #[.int .i64 0, .int .i64 0, .int .i64 0] 57) := ⟨_, rfl⟩
      have hXl : BoxC wc.heap.size (lstL rf 0) wd := by rw [hwd]; exact BoxC.made wc #[.int .i64 0, .int .i64 0, .int .i64 0] 57
      have hBcd : Below wc.heap.size wc wd := by rw [hwd]; exact Below.alloc (Below.refl _ _) (Nat.le_refl _) _
      rw [← hwd]
      clear hwd
      go_loopw [19] (fun i wr => ∃ k : Nat, i = .int .i64 k ∧ k ≤ 3 ∧ BoxC wc.heap.size (lstL rf k) wr ∧ Below wc.heap.size wc wr) (fun i _ => 3 - (intOf i).toNat)
      case atStart => exact ⟨0, rfl, by omega, hXl, hBcd⟩
      case round =>
        obtain ⟨k, rfl, hk, hX, hBz⟩ := hrel
        by_cases hlt : (k : Int) < 3
        · have hk3 : k < 3 := by omega
          obtain ⟨hrl, hrh⟩ := Hrb.out k
          have x1 := (hBz.cell (p := ⟨w.heap.size + 1, k, none⟩) (by show w.heap.size + 1 < wc.heap.size; omega)).trans (hEc.out k hk3)
          have dk := hX.at (lstL_at rf hk3 k)
          have dz : ∀ o, wr.frozen? ⟨wc.heap.size, o, none⟩ = false := hX.2.1
          have j0 : (0 : Int) ≤ (k : Int) := by omega
          have hX' := hide hX
          have nk : ¬ w.heap.size + 1 = wc.heap.size := by omega
          clear hX
          go_wp2_with fail
          refine wp_region_held_drew (S := (fun w' => w'.cell? ⟨w.heap.size + 1, k, none⟩ = some (.int .u8 (rf k)))) (by kernel_rfl) (by first | with_reducible exact x1 | go_simp) (fun hHeld => ?_)
          refine wpAnyH_take (i := 0) (v := ?_) (oi := { dst := some 101, op := Op.move (Operand.tmp 19), type := 3, pos := "law.go:154", after := #[], guard := none }) (by rfl) (by kernel_rfl) (by kernel_rfl) (by kernel_rfl) (fun _ _ _ h => h) (Or.inl ⟨by rfl, ?_⟩) (by assumption) ?_; rotate_left; focus (intro wTk hSw; (try dsimp only at hSw); go_simp; (try with_reducible rfl); done)
          (try simp only [Act.put, List.setIfInBounds_toArray, List.set_cons_zero, List.set_cons_succ])
          refine wpAnyH_take (i := 1) (v := ?_) (oi := { dst := some 102, op := Op.move (Operand.tmp 19), type := 3, pos := "law.go:154", after := #[], guard := none }) (by rfl) (by kernel_rfl) (by kernel_rfl) (by kernel_rfl) (fun _ _ _ h => h) (Or.inl ⟨by rfl, ?_⟩) (by assumption) ?_; rotate_left; focus (intro wTk hSw; (try dsimp only at hSw); go_simp; (try with_reducible rfl); done)
          (try simp only [Act.put, List.setIfInBounds_toArray, List.set_cons_zero, List.set_cons_succ])
          refine wpAnyH_take (i := 2) (v := ?_) (oi := { dst := some 103, op := Op.indexAddr 24 (Operand.tmp 4) (Operand.tmp 102), type := 0, pos := "law.go:154", after := #[{ on := 1, ground := Ground.data }], guard := none }) (by rfl) (by kernel_rfl) (by kernel_rfl) (by kernel_rfl) (fun _ _ _ h => h) (Or.inl ⟨by rfl, ?_⟩) (by assumption) ?_; rotate_left; focus (intro wTk hSw; (try dsimp only at hSw); go_simp; (try with_reducible rfl); done)
          (try simp only [Act.put, List.setIfInBounds_toArray, List.set_cons_zero, List.set_cons_succ])
          refine wpAnyH_take (i := 3) (v := ?_) (oi := { dst := some 104, op := Op.load 5 (Operand.tmp 103), type := 5, pos := "law.go:154", after := #[{ on := 2, ground := Ground.data }], guard := none }) (by rfl) (by kernel_rfl) (by kernel_rfl) (by kernel_rfl) (fun _ _ _ h => h) (Or.inl ⟨by rfl, ?_⟩) (by assumption) ?_; rotate_left; focus (intro wTk hSw; (try dsimp only at hSw); go_simp; (try with_reducible rfl); done)
          (try simp only [Act.put, List.setIfInBounds_toArray, List.set_cons_zero, List.set_cons_succ])
          refine wpAnyH_take (i := 4) (v := ?_) (oi := { dst := some 105, op := Op.binOp BinOp.rem 5 (Operand.tmp 104) (Operand.const (Value.int IntKind.u8 5)) 5, type := 5, pos := "law.go:154", after := #[{ on := 3, ground := Ground.data }], guard := none }) (by rfl) (by kernel_rfl) (by kernel_rfl) (by kernel_rfl) (fun _ _ _ h => h) (Or.inl ⟨by rfl, ?_⟩) (by assumption) ?_; rotate_left; focus (intro wTk hSw; (try dsimp only at hSw); go_simp; (try with_reducible rfl); done)
          (try simp only [Act.put, List.setIfInBounds_toArray, List.set_cons_zero, List.set_cons_succ])
          refine wpAnyH_take (i := 5) (v := ?_) (oi := { dst := some 106, op := Op.convert 5 3 (Operand.tmp 105), type := 3, pos := "law.go:154", after := #[{ on := 4, ground := Ground.data }], guard := none }) (by rfl) (by kernel_rfl) (by kernel_rfl) (by kernel_rfl) (fun _ _ _ h => h) (Or.inl ⟨by rfl, ?_⟩) (by assumption) ?_; rotate_left; focus (intro wTk hSw; (try dsimp only at hSw); go_simp; (try with_reducible rfl); done)
          (try simp only [Act.put, List.setIfInBounds_toArray, List.set_cons_zero, List.set_cons_succ])
          refine wpAnyH_take (i := 6) (v := ?_) (oi := { dst := some 107, op := Op.move (Operand.tmp 19), type := 3, pos := "law.go:154", after := #[], guard := none }) (by rfl) (by kernel_rfl) (by kernel_rfl) (by kernel_rfl) (fun _ _ _ h => h) (Or.inl ⟨by rfl, ?_⟩) (by assumption) ?_; rotate_left; focus (intro wTk hSw; (try dsimp only at hSw); go_simp; (try with_reducible rfl); done)
          (try simp only [Act.put, List.setIfInBounds_toArray, List.set_cons_zero, List.set_cons_succ])
          refine wpAnyH_take (i := 7) (v := ?_) (oi := { dst := some 108, op := Op.indexAddr 24 (Operand.tmp 4) (Operand.tmp 107), type := 0, pos := "law.go:154", after := #[{ on := 6, ground := Ground.data }], guard := none }) (by rfl) (by kernel_rfl) (by kernel_rfl) (by kernel_rfl) (fun _ _ _ h => h) (Or.inl ⟨by rfl, ?_⟩) (by assumption) ?_; rotate_left; focus (intro wTk hSw; (try dsimp only at hSw); go_simp; (try with_reducible rfl); done)
          (try simp only [Act.put, List.setIfInBounds_toArray, List.set_cons_zero, List.set_cons_succ])
          refine wpAnyH_take (i := 8) (v := ?_) (oi := { dst := some 109, op := Op.load 5 (Operand.tmp 108), type := 5, pos := "law.go:154", after := #[{ on := 7, ground := Ground.data }], guard := none }) (by rfl) (by kernel_rfl) (by kernel_rfl) (by kernel_rfl) (fun _ _ _ h => h) (Or.inl ⟨by rfl, ?_⟩) (by assumption) ?_; rotate_left; focus (intro wTk hSw; (try dsimp only at hSw); go_simp; (try with_reducible rfl); done)
          (try simp only [Act.put, List.setIfInBounds_toArray, List.set_cons_zero, List.set_cons_succ])
          refine wpAnyH_take (i := 9) (v := ?_) (oi := { dst := some 110, op := Op.binOp BinOp.rem 5 (Operand.tmp 109) (Operand.const (Value.int IntKind.u8 3)) 5, type := 5, pos := "law.go:154", after := #[{ on := 8, ground := Ground.data }], guard := none }) (by rfl) (by kernel_rfl) (by kernel_rfl) (by kernel_rfl) (fun _ _ _ h => h) (Or.inl ⟨by rfl, ?_⟩) (by assumption) ?_; rotate_left; focus (intro wTk hSw; (try dsimp only at hSw); go_simp; (try with_reducible rfl); done)
          (try simp only [Act.put, List.setIfInBounds_toArray, List.set_cons_zero, List.set_cons_succ])
          refine wpAnyH_take (i := 10) (v := ?_) (oi := { dst := some 111, op := Op.convert 5 3 (Operand.tmp 110), type := 3, pos := "law.go:154", after := #[{ on := 9, ground := Ground.data }], guard := none }) (by rfl) (by kernel_rfl) (by kernel_rfl) (by kernel_rfl) (fun _ _ _ h => h) (Or.inl ⟨by rfl, ?_⟩) (by assumption) ?_; rotate_left; focus (intro wTk hSw; (try dsimp only at hSw); go_simp; (try with_reducible rfl); done)
          (try simp only [Act.put, List.setIfInBounds_toArray, List.set_cons_zero, List.set_cons_succ])
          refine wpAnyH_take (i := 11) (v := ?_) (oi := { dst := some 112, op := Op.binOp BinOp.add 3 (Operand.tmp 106) (Operand.tmp 111) 3, type := 3, pos := "law.go:154", after := #[{ on := 5, ground := Ground.data }, { on := 10, ground := Ground.data }], guard := none }) (by rfl) (by kernel_rfl) (by kernel_rfl) (by kernel_rfl) (fun _ _ _ h => h) (Or.inl ⟨by rfl, ?_⟩) (by assumption) ?_; rotate_left; focus (intro wTk hSw; (try dsimp only at hSw); go_simp; (try with_reducible rfl); done)
          (try simp only [Act.put, List.setIfInBounds_toArray, List.set_cons_zero, List.set_cons_succ])
          refine wpAnyH_take (i := 12) (v := ?_) (oi := { dst := some 113, op := Op.indexAddr 57 (Operand.tmp 18) (Operand.tmp 101), type := 0, pos := "law.go:154", after := #[{ on := 0, ground := Ground.data }, { on := 0, ground := Ground.phase }, { on := 1, ground := Ground.phase }, { on := 2, ground := Ground.phase }, { on := 3, ground := Ground.phase }, { on := 4, ground := Ground.phase }, { on := 5, ground := Ground.phase }, { on := 6, ground := Ground.phase }, { on := 7, ground := Ground.phase }, { on := 8, ground := Ground.phase }, { on := 9, ground := Ground.phase }, { on := 10, ground := Ground.phase }, { on := 11, ground := Ground.phase }], guard := none }) (by rfl) (by kernel_rfl) (by kernel_rfl) (by kernel_rfl) (fun _ _ _ h => h) (Or.inl ⟨by rfl, ?_⟩) (by assumption) ?_; rotate_left; focus (intro wTk hSw; (try dsimp only at hSw); go_simp; (try with_reducible rfl); done)
          (try simp only [Act.put, List.setIfInBounds_toArray, List.set_cons_zero, List.set_cons_succ])
          refine wpAnyH_ready (rs := [13]) (by kernel_rfl) (by simp) ?_
          refine AllReadyH.cons (o := { dst := none, op := Op.store 3 (Operand.tmp 113) (Operand.tmp 112), type := 0, pos := "law.go:154", after := #[{ on := 12, ground := Ground.data }, { on := 11, ground := Ground.data }, { on := 0, ground := Ground.phase }, { on := 1, ground := Ground.phase }, { on := 2, ground := Ground.phase }, { on := 3, ground := Ground.phase }, { on := 4, ground := Ground.phase }, { on := 5, ground := Ground.phase }, { on := 6, ground := Ground.phase }, { on := 7, ground := Ground.phase }, { on := 8, ground := Ground.phase }, { on := 9, ground := Ground.phase }, { on := 10, ground := Ground.phase }, { on := 11, ground := Ground.phase }], guard := none }) (by rfl) (fun K hK => ?_) (AllReadyH.nil)
          go_simp
          skip
          go_wp2_with fail
          refine hK.out _ _ (by first | with_reducible exact x1 | go_simp) (fun hHeld => ?_)
          clear hK K
          (try simp only [Act.put, List.setIfInBounds_toArray, List.set_cons_zero, List.set_cons_succ])
          refine wpAnyH_done (by kernel_rfl) ?_ _
          all_goals go_wp2_with fail
          all_goals refine ⟨⟨k + 1, by go_num, by omega, ?_, ?_⟩, by simp [intOf]; omega⟩
          all_goals first
            | (rw [← lstL_set rf hk3 hrl]; exact (BoxC.store hX'.out (o := k) (by simp [lstL]; omega) _).drew)
            | (rw [← lstL_set rf hk3 hrl]; exact BoxC.store hX'.out (o := k) (by simp [lstL]; omega) _)
            | exact (hBz.setCell (p := ⟨wc.heap.size, k, none⟩) (Nat.le_refl _) _).drew
            | exact hBz.setCell (p := ⟨wc.heap.size, k, none⟩) (Nat.le_refl _) _
        · obtain rfl : k = 3 := by omega
          have HXl := hide hX
          have hsz := hBz.size
          have hBrz := hBc.trans (hBz.mono (by omega))
          have HRa2 := hide (HRa.out.below hBz)
          have HRb2 := hide (HRb.out.below hBz)
          have HXa2 := hide (HXa.out.below hBz)
          have HXb2 := hide (HXb.out.below hBz)
          have oal := hide (WorldV.off_new HRa.out (C := wc.heap.size) (Nat.le_refl _))
          have obl := hide (WorldV.off_new HRb.out (C := wc.heap.size) (Nat.le_refl _))
          have hltz : wc.heap.size < wr.heap.size := hX.2.2
          have HTwo' : Hid (Two nf (leftF rf) z3 0 Va Vb) := HTwo
          clear hX HTwo
          go_wp2_with fail
          go_loopw [20] (fun i ws => ∃ (k : Nat) (x : W3) (left : Nat → Nat) (Pa Pb : WorldV), i = .int .i64 k ∧ k ≤ len ∧ Hid (Two nf left x k Pa Pb) ∧ Hid (BoxC wa.heap.size (vcells Pa) ws) ∧ Hid (BoxC wb.heap.size (vcells Pb) ws) ∧ Hid (BoxC wc.heap.size (lftL left) ws) ∧ Hid (Offs wa.heap.size wb.heap.size wc.heap.size Pa Pb) ∧ Hid (Pa.R ws) ∧ Hid (Pb.R ws) ∧ Below w.heap.size w ws ∧ wc.heap.size < ws.heap.size) (fun i _ => len - (intOf i).toNat)
          case atStart => exact ⟨0, z3, leftF rf, Va, Vb, rfl, by omega, HTwo', HXa2, HXb2, hide (lftL_of rf ▸ HXl.out), hide ⟨oaa.out, oab.out, oal.out, oba.out, obb.out, obl.out⟩, HRa2, HRb2, hBrz, hltz⟩
          case round =>
            obtain ⟨k, x, left, Pa, Pb, rfl, hk, H2, HXa3, HXb3, HXl3, HOf, HRa3, HRb3, hBs, hls⟩ := hrel
            by_cases hlt : (k : Int) < len
            · obtain ⟨b, off, rfl, hbw, hcl⟩ := Hr.out.2 (by omega)
              obtain ⟨lv, hlv⟩ : ∃ lv, ls[k]? = some lv := ⟨_, List.getElem?_eq_getElem (by rw [Hl.out]; omega)⟩
              obtain ⟨hl0, hl1⟩ := Hlb.out lv (List.mem_of_getElem? hlv)
              have x0 := (hBs.cell (p := ⟨b, off + k, none⟩) hbw).trans (hcl k (.int .u8 lv) (by rw [List.getElem?_map, hlv]; rfl))
              obtain ⟨t, ht⟩ : ∃ t : Nat, (t : Int) = lv % 3 := ⟨(lv % 3).toNat, by omega⟩
              have ht3 : t < 3 := by omega
              have hmod : lv.tmod 3 = (t : Int) := by rw [Int.tmod_eq_emod_of_nonneg hl0]; omega
              have Ht := hide ht
              clear ht
              have j0 : (0 : Int) ≤ (k : Int) := by omega
              have b0 := HXb3.out.at (j := 0) rfl
              have b1 := HXb3.out.at (j := 1) rfl
              have b2 := HXb3.out.at (j := 2) rfl
              have b3 := HXb3.out.at (j := 3) rfl
              have b4 := HXb3.out.at (j := 4) rfl
              have b5 := HXb3.out.at (j := 5) rfl
              have b6 := HXb3.out.at (j := 6) rfl
              have b7 := HXb3.out.at (j := 7) rfl
              have b8 := HXb3.out.at (j := 8) rfl
              have hbr : b < wr.heap.size := by omega
              have hzb : wb.heap.size < wr.heap.size := HXb3.out.2.2
              clear hcl
              by_cases hleft : 0 < left t
              · have hst := two_rest H2.out (by omega) ht3 hleft HRb3.out
                unfold StepIs at hst
                have Hst := hide hst
                clear hst
                go_upto_region 29 with (first
                  | (go_at_call 9; refine Hst.out.mono ?_; rintro e wS ⟨P2, okS, rfl, hP0, hPR0, hPO0, hbS⟩; have hsS := hbS.size; have e0 := (hbS.cell (p := ⟨wb.heap.size, 0, none⟩) hzb).trans b0; have e1 := (hbS.cell (p := ⟨wb.heap.size, 1, none⟩) hzb).trans b1; have e2 := (hbS.cell (p := ⟨wb.heap.size, 2, none⟩) hzb).trans b2; have e3 := (hbS.cell (p := ⟨wb.heap.size, 3, none⟩) hzb).trans b3; have e4 := (hbS.cell (p := ⟨wb.heap.size, 4, none⟩) hzb).trans b4; have e5 := (hbS.cell (p := ⟨wb.heap.size, 5, none⟩) hzb).trans b5; have e6 := (hbS.cell (p := ⟨wb.heap.size, 6, none⟩) hzb).trans b6; have e7 := (hbS.cell (p := ⟨wb.heap.size, 7, none⟩) hzb).trans b7; have e8 := (hbS.cell (p := ⟨wb.heap.size, 8, none⟩) hzb).trans b8; have fz : ∀ o, wS.frozen? ⟨wb.heap.size, o, none⟩ = false := (fun o => (hbS.frozen (p := ⟨wb.heap.size, o, none⟩) hzb).trans (HXb3.out.2.1 o)); have HP2 := hide hP0; have HP2R := hide hPR0; have HP2O := hide hPO0; clear hP0 hPR0 hPO0))
                have hbw9 : w.heap.size ≤ wb.heap.size := by have := hBc.size; omega
                have n1 : wa.heap.size ≠ wb.heap.size := by omega
                have n2 : wb.heap.size ≠ wc.heap.size := by omega
                have n3 : wa.heap.size ≠ wc.heap.size := by omega
                obtain ⟨wT, hwT⟩ : ∃ W : World, W = (((((((((wS.setCell ⟨wb.heap.size, 0, none⟩ (.slice P2.M.mem.pA P2.M.mem.hs.length P2.M.mem.pc)).setCell ⟨wb.heap.size, 1, none⟩ (.slice P2.M.mem.vA P2.M.mem.vs.length P2.M.mem.vc)).setCell ⟨wb.heap.size, 2, none⟩ (.slice P2.M.ln.fA P2.M.ln.first.length P2.M.ln.fc)).setCell ⟨wb.heap.size, 3, none⟩ (.slice P2.M.ln.lA P2.M.ln.logs.length P2.M.ln.lc)).setCell ⟨wb.heap.size, 4, none⟩ (.map P2.M.ln.asks)).setCell ⟨wb.heap.size, 5, none⟩ (.slice P2.M.sA P2.M.steps.length P2.M.sc)).setCell ⟨wb.heap.size, 6, none⟩ (.int .i64 P2.M.crashes)).setCell ⟨wb.heap.size, 7, none⟩ (.slice P2.tA P2.ts.length P2.tc)).setCell ⟨wb.heap.size, 8, none⟩ (.slice P2.sA P2.ss.length P2.sc)) := ⟨_, rfl⟩
                have hO := HOf.out
                have oP := HP2O.out wb.heap.size hzb hO.2.2.2.2.1
                have HRP : Hid (WorldV.R wT P2) := hide (by rw [hwT]; exact (WorldV.R.set (WorldV.R.set (WorldV.R.set (WorldV.R.set (WorldV.R.set (WorldV.R.set (WorldV.R.set (WorldV.R.set (WorldV.R.set HP2R.out oP (.of e0) (.slice P2.M.mem.pA P2.M.mem.hs.length P2.M.mem.pc)) oP (.set (.of e1) _) (.slice P2.M.mem.vA P2.M.mem.vs.length P2.M.mem.vc)) oP (.set (.set (.of e2) _) _) (.slice P2.M.ln.fA P2.M.ln.first.length P2.M.ln.fc)) oP (.set (.set (.set (.of e3) _) _) _) (.slice P2.M.ln.lA P2.M.ln.logs.length P2.M.ln.lc)) oP (.set (.set (.set (.set (.of e4) _) _) _) _) (.map P2.M.ln.asks)) oP (.set (.set (.set (.set (.set (.of e5) _) _) _) _) _) (.slice P2.M.sA P2.M.steps.length P2.M.sc)) oP (.set (.set (.set (.set (.set (.set (.of e6) _) _) _) _) _) _) (.int .i64 P2.M.crashes)) oP (.set (.set (.set (.set (.set (.set (.set (.of e7) _) _) _) _) _) _) _) (.slice P2.tA P2.ts.length P2.tc)) oP (.set (.set (.set (.set (.set (.set (.set (.set (.of e8) _) _) _) _) _) _) _) _) (.slice P2.sA P2.ss.length P2.sc)))
                have HRa4 : Hid (WorldV.R wT Pa) := hide (by rw [hwT]; exact (WorldV.R.set (WorldV.R.set (WorldV.R.set (WorldV.R.set (WorldV.R.set (WorldV.R.set (WorldV.R.set (WorldV.R.set (WorldV.R.set (HRa3.out.below hbS) hO.2.1 (.of e0) (.slice P2.M.mem.pA P2.M.mem.hs.length P2.M.mem.pc)) hO.2.1 (.set (.of e1) _) (.slice P2.M.mem.vA P2.M.mem.vs.length P2.M.mem.vc)) hO.2.1 (.set (.set (.of e2) _) _) (.slice P2.M.ln.fA P2.M.ln.first.length P2.M.ln.fc)) hO.2.1 (.set (.set (.set (.of e3) _) _) _) (.slice P2.M.ln.lA P2.M.ln.logs.length P2.M.ln.lc)) hO.2.1 (.set (.set (.set (.set (.of e4) _) _) _) _) (.map P2.M.ln.asks)) hO.2.1 (.set (.set (.set (.set (.set (.of e5) _) _) _) _) _) (.slice P2.M.sA P2.M.steps.length P2.M.sc)) hO.2.1 (.set (.set (.set (.set (.set (.set (.of e6) _) _) _) _) _) _) (.int .i64 P2.M.crashes)) hO.2.1 (.set (.set (.set (.set (.set (.set (.set (.of e7) _) _) _) _) _) _) _) (.slice P2.tA P2.ts.length P2.tc)) hO.2.1 (.set (.set (.set (.set (.set (.set (.set (.set (.of e8) _) _) _) _) _) _) _) _) (.slice P2.sA P2.ss.length P2.sc)))
                have HXa4 : Hid (BoxC wa.heap.size (vcells Pa) wT) := hide (by rw [hwT]; exact (BoxC.far (BoxC.far (BoxC.far (BoxC.far (BoxC.far (BoxC.far (BoxC.far (BoxC.far (BoxC.far (HXa3.out.below hbS) (fun e => n1 e.symm) (.slice P2.M.mem.pA P2.M.mem.hs.length P2.M.mem.pc)) (fun e => n1 e.symm) (.slice P2.M.mem.vA P2.M.mem.vs.length P2.M.mem.vc)) (fun e => n1 e.symm) (.slice P2.M.ln.fA P2.M.ln.first.length P2.M.ln.fc)) (fun e => n1 e.symm) (.slice P2.M.ln.lA P2.M.ln.logs.length P2.M.ln.lc)) (fun e => n1 e.symm) (.map P2.M.ln.asks)) (fun e => n1 e.symm) (.slice P2.M.sA P2.M.steps.length P2.M.sc)) (fun e => n1 e.symm) (.int .i64 P2.M.crashes)) (fun e => n1 e.symm) (.slice P2.tA P2.ts.length P2.tc)) (fun e => n1 e.symm) (.slice P2.sA P2.ss.length P2.sc)))
                have HXb4 : Hid (BoxC wb.heap.size (vcells P2) wT) := hide (by rw [hwT]; exact (BoxC.store (BoxC.store (BoxC.store (BoxC.store (BoxC.store (BoxC.store (BoxC.store (BoxC.store (BoxC.store (HXb3.out.below hbS) (o := 0) (by simp [vcells]) (.slice P2.M.mem.pA P2.M.mem.hs.length P2.M.mem.pc)) (o := 1) (by simp [vcells]) (.slice P2.M.mem.vA P2.M.mem.vs.length P2.M.mem.vc)) (o := 2) (by simp [vcells]) (.slice P2.M.ln.fA P2.M.ln.first.length P2.M.ln.fc)) (o := 3) (by simp [vcells]) (.slice P2.M.ln.lA P2.M.ln.logs.length P2.M.ln.lc)) (o := 4) (by simp [vcells]) (.map P2.M.ln.asks)) (o := 5) (by simp [vcells]) (.slice P2.M.sA P2.M.steps.length P2.M.sc)) (o := 6) (by simp [vcells]) (.int .i64 P2.M.crashes)) (o := 7) (by simp [vcells]) (.slice P2.tA P2.ts.length P2.tc)) (o := 8) (by simp [vcells]) (.slice P2.sA P2.ss.length P2.sc)))
                have HXl4 : Hid (BoxC wc.heap.size (lftL left) wT) := hide (by rw [hwT]; exact (BoxC.far (BoxC.far (BoxC.far (BoxC.far (BoxC.far (BoxC.far (BoxC.far (BoxC.far (BoxC.far (HXl3.out.below hbS) n2 (.slice P2.M.mem.pA P2.M.mem.hs.length P2.M.mem.pc)) n2 (.slice P2.M.mem.vA P2.M.mem.vs.length P2.M.mem.vc)) n2 (.slice P2.M.ln.fA P2.M.ln.first.length P2.M.ln.fc)) n2 (.slice P2.M.ln.lA P2.M.ln.logs.length P2.M.ln.lc)) n2 (.map P2.M.ln.asks)) n2 (.slice P2.M.sA P2.M.steps.length P2.M.sc)) n2 (.int .i64 P2.M.crashes)) n2 (.slice P2.tA P2.ts.length P2.tc)) n2 (.slice P2.sA P2.ss.length P2.sc)))
                have hB4 : Below w.heap.size w wT := by rw [hwT]; exact (Below.setCell (Below.setCell (Below.setCell (Below.setCell (Below.setCell (Below.setCell (Below.setCell (Below.setCell (Below.setCell (hBs.trans (hbS.mono hBs.size)) (p := ⟨wb.heap.size, 0, none⟩) (by show w.heap.size ≤ wb.heap.size; omega) (.slice P2.M.mem.pA P2.M.mem.hs.length P2.M.mem.pc)) (p := ⟨wb.heap.size, 1, none⟩) (by show w.heap.size ≤ wb.heap.size; omega) (.slice P2.M.mem.vA P2.M.mem.vs.length P2.M.mem.vc)) (p := ⟨wb.heap.size, 2, none⟩) (by show w.heap.size ≤ wb.heap.size; omega) (.slice P2.M.ln.fA P2.M.ln.first.length P2.M.ln.fc)) (p := ⟨wb.heap.size, 3, none⟩) (by show w.heap.size ≤ wb.heap.size; omega) (.slice P2.M.ln.lA P2.M.ln.logs.length P2.M.ln.lc)) (p := ⟨wb.heap.size, 4, none⟩) (by show w.heap.size ≤ wb.heap.size; omega) (.map P2.M.ln.asks)) (p := ⟨wb.heap.size, 5, none⟩) (by show w.heap.size ≤ wb.heap.size; omega) (.slice P2.M.sA P2.M.steps.length P2.M.sc)) (p := ⟨wb.heap.size, 6, none⟩) (by show w.heap.size ≤ wb.heap.size; omega) (.int .i64 P2.M.crashes)) (p := ⟨wb.heap.size, 7, none⟩) (by show w.heap.size ≤ wb.heap.size; omega) (.slice P2.tA P2.ts.length P2.tc)) (p := ⟨wb.heap.size, 8, none⟩) (by show w.heap.size ≤ wb.heap.size; omega) (.slice P2.sA P2.ss.length P2.sc))
                rw [← hwT]
                have hO4 := HOf.out
                have hOff2 : Offs wa.heap.size wb.heap.size wc.heap.size Pa P2 := ⟨hO4.1, hO4.2.1, hO4.2.2.1, HP2O.out _ (by omega) hO4.2.2.2.1, HP2O.out _ hzb hO4.2.2.2.2.1, HP2O.out _ hls hO4.2.2.2.2.2⟩
                have HOf2 := hide hOff2
                have hlb : left t ≤ 200 := by
                  obtain ⟨qa, qb, q1, q2, q3⟩ := H2.out.2.2 t ht3
                  rcases q3 with ⟨q4, _⟩ | ⟨_, _, l1, l2, b2, q5, q6, q7, _⟩
                  · omega
                  · omega
                have dL := HXl4.out.at (lftL_at left ht3)
                have fL : ∀ o, wT.frozen? ⟨wc.heap.size, o, none⟩ = false := HXl4.out.2.1
                have hgt : (left t : Int) > 0 := by omega
                have hgt' : (0 : Int) < (left t : Int) := by omega
                have i0' : (0 : Int) ≤ (t : Int) := by omega
                have i1' : (t : Int) < 3 := by omega
                have hw5 : wrap64 ((left t : Int) - 1) = (left t : Int) - 1 := by unfold wrap64; omega
                clear hwT hO oP hO4 hOff2 e0 e1 e2 e3 e4 e5 e6 e7 e8 b0 b1 b2 b3 b4 b5 b6 b7 b8 x0 fz hbS
                go_wp2_with fail
                have hOF := HOf2.out
                have hlz : wc.heap.size < wT.heap.size := HXl4.out.2.2
                have hb9 : w.heap.size ≤ wc.heap.size := by have := hBc.size; omega
                refine ⟨⟨k + 1, x, fun j => if j = t then left t - 1 else left j, Pa, P2, by go_num, by omega, HP2, hide (BoxC.far HXa4.out (fun e => n3 e.symm) _), hide (BoxC.far HXb4.out (fun e => n2 e.symm) _), hide ?_, HOf2, hide (WorldV.R.set HRa4.out hOF.2.2.1 (.of dL) _), hide (WorldV.R.set HRP.out hOF.2.2.2.2.2 (.of dL) _), hB4.setCell (p := ⟨wc.heap.size, t, none⟩) hb9 _, by simp; omega⟩, by simp [intOf]; omega⟩
                rw [← lftL_set left ht3 (left t - 1), show ((left t - 1 : Nat) : Int) = (left t : Int) - 1 by omega]
                exact BoxC.store HXl4.out (o := t) (by simp [lftL]; omega) _
              · have hl0 : left t = 0 := by omega
                have hst := two_second H2.out (by omega) ht3 hl0 HRb3.out
                unfold StepIs at hst
                have Hst := hide hst
                clear hst
                go_upto_region 29 with (first
                  | (go_at_call 9; refine Hst.out.mono ?_; rintro e wS ⟨P2, okS, rfl, hP0, hPR0, hPO0, hbS⟩; have hsS := hbS.size; have e0 := (hbS.cell (p := ⟨wb.heap.size, 0, none⟩) hzb).trans b0; have e1 := (hbS.cell (p := ⟨wb.heap.size, 1, none⟩) hzb).trans b1; have e2 := (hbS.cell (p := ⟨wb.heap.size, 2, none⟩) hzb).trans b2; have e3 := (hbS.cell (p := ⟨wb.heap.size, 3, none⟩) hzb).trans b3; have e4 := (hbS.cell (p := ⟨wb.heap.size, 4, none⟩) hzb).trans b4; have e5 := (hbS.cell (p := ⟨wb.heap.size, 5, none⟩) hzb).trans b5; have e6 := (hbS.cell (p := ⟨wb.heap.size, 6, none⟩) hzb).trans b6; have e7 := (hbS.cell (p := ⟨wb.heap.size, 7, none⟩) hzb).trans b7; have e8 := (hbS.cell (p := ⟨wb.heap.size, 8, none⟩) hzb).trans b8; have fz : ∀ o, wS.frozen? ⟨wb.heap.size, o, none⟩ = false := (fun o => (hbS.frozen (p := ⟨wb.heap.size, o, none⟩) hzb).trans (HXb3.out.2.1 o)); have HP2 := hide hP0; have HP2R := hide hPR0; have HP2O := hide hPO0; clear hP0 hPR0 hPO0))
                have hbw9 : w.heap.size ≤ wb.heap.size := by have := hBc.size; omega
                have n1 : wa.heap.size ≠ wb.heap.size := by omega
                have n2 : wb.heap.size ≠ wc.heap.size := by omega
                have n3 : wa.heap.size ≠ wc.heap.size := by omega
                obtain ⟨wT, hwT⟩ : ∃ W : World, W = (((((((((wS.setCell ⟨wb.heap.size, 0, none⟩ (.slice P2.M.mem.pA P2.M.mem.hs.length P2.M.mem.pc)).setCell ⟨wb.heap.size, 1, none⟩ (.slice P2.M.mem.vA P2.M.mem.vs.length P2.M.mem.vc)).setCell ⟨wb.heap.size, 2, none⟩ (.slice P2.M.ln.fA P2.M.ln.first.length P2.M.ln.fc)).setCell ⟨wb.heap.size, 3, none⟩ (.slice P2.M.ln.lA P2.M.ln.logs.length P2.M.ln.lc)).setCell ⟨wb.heap.size, 4, none⟩ (.map P2.M.ln.asks)).setCell ⟨wb.heap.size, 5, none⟩ (.slice P2.M.sA P2.M.steps.length P2.M.sc)).setCell ⟨wb.heap.size, 6, none⟩ (.int .i64 P2.M.crashes)).setCell ⟨wb.heap.size, 7, none⟩ (.slice P2.tA P2.ts.length P2.tc)).setCell ⟨wb.heap.size, 8, none⟩ (.slice P2.sA P2.ss.length P2.sc)) := ⟨_, rfl⟩
                have hO := HOf.out
                have oP := HP2O.out wb.heap.size hzb hO.2.2.2.2.1
                have HRP : Hid (WorldV.R wT P2) := hide (by rw [hwT]; exact (WorldV.R.set (WorldV.R.set (WorldV.R.set (WorldV.R.set (WorldV.R.set (WorldV.R.set (WorldV.R.set (WorldV.R.set (WorldV.R.set HP2R.out oP (.of e0) (.slice P2.M.mem.pA P2.M.mem.hs.length P2.M.mem.pc)) oP (.set (.of e1) _) (.slice P2.M.mem.vA P2.M.mem.vs.length P2.M.mem.vc)) oP (.set (.set (.of e2) _) _) (.slice P2.M.ln.fA P2.M.ln.first.length P2.M.ln.fc)) oP (.set (.set (.set (.of e3) _) _) _) (.slice P2.M.ln.lA P2.M.ln.logs.length P2.M.ln.lc)) oP (.set (.set (.set (.set (.of e4) _) _) _) _) (.map P2.M.ln.asks)) oP (.set (.set (.set (.set (.set (.of e5) _) _) _) _) _) (.slice P2.M.sA P2.M.steps.length P2.M.sc)) oP (.set (.set (.set (.set (.set (.set (.of e6) _) _) _) _) _) _) (.int .i64 P2.M.crashes)) oP (.set (.set (.set (.set (.set (.set (.set (.of e7) _) _) _) _) _) _) _) (.slice P2.tA P2.ts.length P2.tc)) oP (.set (.set (.set (.set (.set (.set (.set (.set (.of e8) _) _) _) _) _) _) _) _) (.slice P2.sA P2.ss.length P2.sc)))
                have HRa4 : Hid (WorldV.R wT Pa) := hide (by rw [hwT]; exact (WorldV.R.set (WorldV.R.set (WorldV.R.set (WorldV.R.set (WorldV.R.set (WorldV.R.set (WorldV.R.set (WorldV.R.set (WorldV.R.set (HRa3.out.below hbS) hO.2.1 (.of e0) (.slice P2.M.mem.pA P2.M.mem.hs.length P2.M.mem.pc)) hO.2.1 (.set (.of e1) _) (.slice P2.M.mem.vA P2.M.mem.vs.length P2.M.mem.vc)) hO.2.1 (.set (.set (.of e2) _) _) (.slice P2.M.ln.fA P2.M.ln.first.length P2.M.ln.fc)) hO.2.1 (.set (.set (.set (.of e3) _) _) _) (.slice P2.M.ln.lA P2.M.ln.logs.length P2.M.ln.lc)) hO.2.1 (.set (.set (.set (.set (.of e4) _) _) _) _) (.map P2.M.ln.asks)) hO.2.1 (.set (.set (.set (.set (.set (.of e5) _) _) _) _) _) (.slice P2.M.sA P2.M.steps.length P2.M.sc)) hO.2.1 (.set (.set (.set (.set (.set (.set (.of e6) _) _) _) _) _) _) (.int .i64 P2.M.crashes)) hO.2.1 (.set (.set (.set (.set (.set (.set (.set (.of e7) _) _) _) _) _) _) _) (.slice P2.tA P2.ts.length P2.tc)) hO.2.1 (.set (.set (.set (.set (.set (.set (.set (.set (.of e8) _) _) _) _) _) _) _) _) (.slice P2.sA P2.ss.length P2.sc)))
                have HXa4 : Hid (BoxC wa.heap.size (vcells Pa) wT) := hide (by rw [hwT]; exact (BoxC.far (BoxC.far (BoxC.far (BoxC.far (BoxC.far (BoxC.far (BoxC.far (BoxC.far (BoxC.far (HXa3.out.below hbS) (fun e => n1 e.symm) (.slice P2.M.mem.pA P2.M.mem.hs.length P2.M.mem.pc)) (fun e => n1 e.symm) (.slice P2.M.mem.vA P2.M.mem.vs.length P2.M.mem.vc)) (fun e => n1 e.symm) (.slice P2.M.ln.fA P2.M.ln.first.length P2.M.ln.fc)) (fun e => n1 e.symm) (.slice P2.M.ln.lA P2.M.ln.logs.length P2.M.ln.lc)) (fun e => n1 e.symm) (.map P2.M.ln.asks)) (fun e => n1 e.symm) (.slice P2.M.sA P2.M.steps.length P2.M.sc)) (fun e => n1 e.symm) (.int .i64 P2.M.crashes)) (fun e => n1 e.symm) (.slice P2.tA P2.ts.length P2.tc)) (fun e => n1 e.symm) (.slice P2.sA P2.ss.length P2.sc)))
                have HXb4 : Hid (BoxC wb.heap.size (vcells P2) wT) := hide (by rw [hwT]; exact (BoxC.store (BoxC.store (BoxC.store (BoxC.store (BoxC.store (BoxC.store (BoxC.store (BoxC.store (BoxC.store (HXb3.out.below hbS) (o := 0) (by simp [vcells]) (.slice P2.M.mem.pA P2.M.mem.hs.length P2.M.mem.pc)) (o := 1) (by simp [vcells]) (.slice P2.M.mem.vA P2.M.mem.vs.length P2.M.mem.vc)) (o := 2) (by simp [vcells]) (.slice P2.M.ln.fA P2.M.ln.first.length P2.M.ln.fc)) (o := 3) (by simp [vcells]) (.slice P2.M.ln.lA P2.M.ln.logs.length P2.M.ln.lc)) (o := 4) (by simp [vcells]) (.map P2.M.ln.asks)) (o := 5) (by simp [vcells]) (.slice P2.M.sA P2.M.steps.length P2.M.sc)) (o := 6) (by simp [vcells]) (.int .i64 P2.M.crashes)) (o := 7) (by simp [vcells]) (.slice P2.tA P2.ts.length P2.tc)) (o := 8) (by simp [vcells]) (.slice P2.sA P2.ss.length P2.sc)))
                have HXl4 : Hid (BoxC wc.heap.size (lftL left) wT) := hide (by rw [hwT]; exact (BoxC.far (BoxC.far (BoxC.far (BoxC.far (BoxC.far (BoxC.far (BoxC.far (BoxC.far (BoxC.far (HXl3.out.below hbS) n2 (.slice P2.M.mem.pA P2.M.mem.hs.length P2.M.mem.pc)) n2 (.slice P2.M.mem.vA P2.M.mem.vs.length P2.M.mem.vc)) n2 (.slice P2.M.ln.fA P2.M.ln.first.length P2.M.ln.fc)) n2 (.slice P2.M.ln.lA P2.M.ln.logs.length P2.M.ln.lc)) n2 (.map P2.M.ln.asks)) n2 (.slice P2.M.sA P2.M.steps.length P2.M.sc)) n2 (.int .i64 P2.M.crashes)) n2 (.slice P2.tA P2.ts.length P2.tc)) n2 (.slice P2.sA P2.ss.length P2.sc)))
                have hB4 : Below w.heap.size w wT := by rw [hwT]; exact (Below.setCell (Below.setCell (Below.setCell (Below.setCell (Below.setCell (Below.setCell (Below.setCell (Below.setCell (Below.setCell (hBs.trans (hbS.mono hBs.size)) (p := ⟨wb.heap.size, 0, none⟩) (by show w.heap.size ≤ wb.heap.size; omega) (.slice P2.M.mem.pA P2.M.mem.hs.length P2.M.mem.pc)) (p := ⟨wb.heap.size, 1, none⟩) (by show w.heap.size ≤ wb.heap.size; omega) (.slice P2.M.mem.vA P2.M.mem.vs.length P2.M.mem.vc)) (p := ⟨wb.heap.size, 2, none⟩) (by show w.heap.size ≤ wb.heap.size; omega) (.slice P2.M.ln.fA P2.M.ln.first.length P2.M.ln.fc)) (p := ⟨wb.heap.size, 3, none⟩) (by show w.heap.size ≤ wb.heap.size; omega) (.slice P2.M.ln.lA P2.M.ln.logs.length P2.M.ln.lc)) (p := ⟨wb.heap.size, 4, none⟩) (by show w.heap.size ≤ wb.heap.size; omega) (.map P2.M.ln.asks)) (p := ⟨wb.heap.size, 5, none⟩) (by show w.heap.size ≤ wb.heap.size; omega) (.slice P2.M.sA P2.M.steps.length P2.M.sc)) (p := ⟨wb.heap.size, 6, none⟩) (by show w.heap.size ≤ wb.heap.size; omega) (.int .i64 P2.M.crashes)) (p := ⟨wb.heap.size, 7, none⟩) (by show w.heap.size ≤ wb.heap.size; omega) (.slice P2.tA P2.ts.length P2.tc)) (p := ⟨wb.heap.size, 8, none⟩) (by show w.heap.size ≤ wb.heap.size; omega) (.slice P2.sA P2.ss.length P2.sc))
                rw [← hwT]
                have hO4 := HOf.out
                have hOff2 : Offs wa.heap.size wb.heap.size wc.heap.size Pa P2 := ⟨hO4.1, hO4.2.1, hO4.2.2.1, HP2O.out _ (by omega) hO4.2.2.2.1, HP2O.out _ hzb hO4.2.2.2.2.1, HP2O.out _ hls hO4.2.2.2.2.2⟩
                have HOf2 := hide hOff2
                have dL : wT.cell? ⟨wc.heap.size, t, none⟩ = some (.int .i64 0) := by
                  have q := HXl4.out.at (lftL_at left ht3)
                  rw [hl0] at q
                  exact q
                have i0' : (0 : Int) ≤ (t : Int) := by omega
                have i1' : (t : Int) < 3 := by omega
                have hza : wa.heap.size < wT.heap.size := HXa4.out.2.2
                have c0 := HXa4.out.at (j := 0) rfl
                have c1 := HXa4.out.at (j := 1) rfl
                have c2 := HXa4.out.at (j := 2) rfl
                have c3 := HXa4.out.at (j := 3) rfl
                have c4 := HXa4.out.at (j := 4) rfl
                have c5 := HXa4.out.at (j := 5) rfl
                have c6 := HXa4.out.at (j := 6) rfl
                have c7 := HXa4.out.at (j := 7) rfl
                have c8 := HXa4.out.at (j := 8) rfl
                have hst := two_first HP2.out (by omega) ht3 hl0 HRa4.out
                unfold StepIs at hst
                have Hst2 := hide hst
                have hlT : wc.heap.size < wT.heap.size := HXl4.out.2.2
                have hbT : wb.heap.size < wT.heap.size := HXb4.out.2.2
                have Hl0 := hide hl0
                clear hst hwT hO oP hO4 hOff2 e0 e1 e2 e3 e4 e5 e6 e7 e8 b0 b1 b2 b3 b4 b5 b6 b7 b8 x0 fz hbS hl0 hleft
                go_upto_region 26 with (first
                  | (go_at_call 9; refine Hst2.out.mono ?_; rintro e wU ⟨P3, okU, rfl, hP0, hPR0, hPO0, hbU⟩; have hsU := hbU.size; have f0 := (hbU.cell (p := ⟨wa.heap.size, 0, none⟩) hza).trans c0; have f1 := (hbU.cell (p := ⟨wa.heap.size, 1, none⟩) hza).trans c1; have f2 := (hbU.cell (p := ⟨wa.heap.size, 2, none⟩) hza).trans c2; have f3 := (hbU.cell (p := ⟨wa.heap.size, 3, none⟩) hza).trans c3; have f4 := (hbU.cell (p := ⟨wa.heap.size, 4, none⟩) hza).trans c4; have f5 := (hbU.cell (p := ⟨wa.heap.size, 5, none⟩) hza).trans c5; have f6 := (hbU.cell (p := ⟨wa.heap.size, 6, none⟩) hza).trans c6; have f7 := (hbU.cell (p := ⟨wa.heap.size, 7, none⟩) hza).trans c7; have f8 := (hbU.cell (p := ⟨wa.heap.size, 8, none⟩) hza).trans c8; have fz : ∀ o, wU.frozen? ⟨wa.heap.size, o, none⟩ = false := (fun o => (hbU.frozen (p := ⟨wa.heap.size, o, none⟩) hza).trans (HXa4.out.2.1 o)); have HP3 := hide hP0; have HP3R := hide hPR0; have HP3O := hide hPO0; clear hP0 hPR0 hPO0))
                have haw9 : w.heap.size ≤ wa.heap.size := by have := hBr.size; have := hBa1.size; omega
                have n1 : wa.heap.size ≠ wb.heap.size := by omega
                have n2 : wb.heap.size ≠ wc.heap.size := by omega
                have n3 : wa.heap.size ≠ wc.heap.size := by omega
                obtain ⟨wV, hwV⟩ : ∃ W : World, W = (((((((((wU.setCell ⟨wa.heap.size, 0, none⟩ (.slice P3.M.mem.pA P3.M.mem.hs.length P3.M.mem.pc)).setCell ⟨wa.heap.size, 1, none⟩ (.slice P3.M.mem.vA P3.M.mem.vs.length P3.M.mem.vc)).setCell ⟨wa.heap.size, 2, none⟩ (.slice P3.M.ln.fA P3.M.ln.first.length P3.M.ln.fc)).setCell ⟨wa.heap.size, 3, none⟩ (.slice P3.M.ln.lA P3.M.ln.logs.length P3.M.ln.lc)).setCell ⟨wa.heap.size, 4, none⟩ (.map P3.M.ln.asks)).setCell ⟨wa.heap.size, 5, none⟩ (.slice P3.M.sA P3.M.steps.length P3.M.sc)).setCell ⟨wa.heap.size, 6, none⟩ (.int .i64 P3.M.crashes)).setCell ⟨wa.heap.size, 7, none⟩ (.slice P3.tA P3.ts.length P3.tc)).setCell ⟨wa.heap.size, 8, none⟩ (.slice P3.sA P3.ss.length P3.sc)) := ⟨_, rfl⟩
                have hO := HOf2.out
                have oP := HP3O.out wa.heap.size hza hO.1
                have HRP3 : Hid (WorldV.R wV P3) := hide (by rw [hwV]; exact (WorldV.R.set (WorldV.R.set (WorldV.R.set (WorldV.R.set (WorldV.R.set (WorldV.R.set (WorldV.R.set (WorldV.R.set (WorldV.R.set HP3R.out oP (.of f0) (.slice P3.M.mem.pA P3.M.mem.hs.length P3.M.mem.pc)) oP (.set (.of f1) _) (.slice P3.M.mem.vA P3.M.mem.vs.length P3.M.mem.vc)) oP (.set (.set (.of f2) _) _) (.slice P3.M.ln.fA P3.M.ln.first.length P3.M.ln.fc)) oP (.set (.set (.set (.of f3) _) _) _) (.slice P3.M.ln.lA P3.M.ln.logs.length P3.M.ln.lc)) oP (.set (.set (.set (.set (.of f4) _) _) _) _) (.map P3.M.ln.asks)) oP (.set (.set (.set (.set (.set (.of f5) _) _) _) _) _) (.slice P3.M.sA P3.M.steps.length P3.M.sc)) oP (.set (.set (.set (.set (.set (.set (.of f6) _) _) _) _) _) _) (.int .i64 P3.M.crashes)) oP (.set (.set (.set (.set (.set (.set (.set (.of f7) _) _) _) _) _) _) _) (.slice P3.tA P3.ts.length P3.tc)) oP (.set (.set (.set (.set (.set (.set (.set (.set (.of f8) _) _) _) _) _) _) _) _) (.slice P3.sA P3.ss.length P3.sc)))
                have HRb5 : Hid (WorldV.R wV P2) := hide (by rw [hwV]; exact (WorldV.R.set (WorldV.R.set (WorldV.R.set (WorldV.R.set (WorldV.R.set (WorldV.R.set (WorldV.R.set (WorldV.R.set (WorldV.R.set (HRP.out.below hbU) hO.2.2.2.1 (.of f0) (.slice P3.M.mem.pA P3.M.mem.hs.length P3.M.mem.pc)) hO.2.2.2.1 (.set (.of f1) _) (.slice P3.M.mem.vA P3.M.mem.vs.length P3.M.mem.vc)) hO.2.2.2.1 (.set (.set (.of f2) _) _) (.slice P3.M.ln.fA P3.M.ln.first.length P3.M.ln.fc)) hO.2.2.2.1 (.set (.set (.set (.of f3) _) _) _) (.slice P3.M.ln.lA P3.M.ln.logs.length P3.M.ln.lc)) hO.2.2.2.1 (.set (.set (.set (.set (.of f4) _) _) _) _) (.map P3.M.ln.asks)) hO.2.2.2.1 (.set (.set (.set (.set (.set (.of f5) _) _) _) _) _) (.slice P3.M.sA P3.M.steps.length P3.M.sc)) hO.2.2.2.1 (.set (.set (.set (.set (.set (.set (.of f6) _) _) _) _) _) _) (.int .i64 P3.M.crashes)) hO.2.2.2.1 (.set (.set (.set (.set (.set (.set (.set (.of f7) _) _) _) _) _) _) _) (.slice P3.tA P3.ts.length P3.tc)) hO.2.2.2.1 (.set (.set (.set (.set (.set (.set (.set (.set (.of f8) _) _) _) _) _) _) _) _) (.slice P3.sA P3.ss.length P3.sc)))
                have HXa5 : Hid (BoxC wa.heap.size (vcells P3) wV) := hide (by rw [hwV]; exact (BoxC.store (BoxC.store (BoxC.store (BoxC.store (BoxC.store (BoxC.store (BoxC.store (BoxC.store (BoxC.store (HXa4.out.below hbU) (o := 0) (by simp [vcells]) (.slice P3.M.mem.pA P3.M.mem.hs.length P3.M.mem.pc)) (o := 1) (by simp [vcells]) (.slice P3.M.mem.vA P3.M.mem.vs.length P3.M.mem.vc)) (o := 2) (by simp [vcells]) (.slice P3.M.ln.fA P3.M.ln.first.length P3.M.ln.fc)) (o := 3) (by simp [vcells]) (.slice P3.M.ln.lA P3.M.ln.logs.length P3.M.ln.lc)) (o := 4) (by simp [vcells]) (.map P3.M.ln.asks)) (o := 5) (by simp [vcells]) (.slice P3.M.sA P3.M.steps.length P3.M.sc)) (o := 6) (by simp [vcells]) (.int .i64 P3.M.crashes)) (o := 7) (by simp [vcells]) (.slice P3.tA P3.ts.length P3.tc)) (o := 8) (by simp [vcells]) (.slice P3.sA P3.ss.length P3.sc)))
                have HXb5 : Hid (BoxC wb.heap.size (vcells P2) wV) := hide (by rw [hwV]; exact (BoxC.far (BoxC.far (BoxC.far (BoxC.far (BoxC.far (BoxC.far (BoxC.far (BoxC.far (BoxC.far (HXb4.out.below hbU) n1 (.slice P3.M.mem.pA P3.M.mem.hs.length P3.M.mem.pc)) n1 (.slice P3.M.mem.vA P3.M.mem.vs.length P3.M.mem.vc)) n1 (.slice P3.M.ln.fA P3.M.ln.first.length P3.M.ln.fc)) n1 (.slice P3.M.ln.lA P3.M.ln.logs.length P3.M.ln.lc)) n1 (.map P3.M.ln.asks)) n1 (.slice P3.M.sA P3.M.steps.length P3.M.sc)) n1 (.int .i64 P3.M.crashes)) n1 (.slice P3.tA P3.ts.length P3.tc)) n1 (.slice P3.sA P3.ss.length P3.sc)))
                have HXl5 : Hid (BoxC wc.heap.size (lftL left) wV) := hide (by rw [hwV]; exact (BoxC.far (BoxC.far (BoxC.far (BoxC.far (BoxC.far (BoxC.far (BoxC.far (BoxC.far (BoxC.far (HXl4.out.below hbU) n3 (.slice P3.M.mem.pA P3.M.mem.hs.length P3.M.mem.pc)) n3 (.slice P3.M.mem.vA P3.M.mem.vs.length P3.M.mem.vc)) n3 (.slice P3.M.ln.fA P3.M.ln.first.length P3.M.ln.fc)) n3 (.slice P3.M.ln.lA P3.M.ln.logs.length P3.M.ln.lc)) n3 (.map P3.M.ln.asks)) n3 (.slice P3.M.sA P3.M.steps.length P3.M.sc)) n3 (.int .i64 P3.M.crashes)) n3 (.slice P3.tA P3.ts.length P3.tc)) n3 (.slice P3.sA P3.ss.length P3.sc)))
                have hB5 : Below w.heap.size w wV := by rw [hwV]; exact (Below.setCell (Below.setCell (Below.setCell (Below.setCell (Below.setCell (Below.setCell (Below.setCell (Below.setCell (Below.setCell (hB4.trans (hbU.mono hB4.size)) (p := ⟨wa.heap.size, 0, none⟩) (by show w.heap.size ≤ wa.heap.size; omega) (.slice P3.M.mem.pA P3.M.mem.hs.length P3.M.mem.pc)) (p := ⟨wa.heap.size, 1, none⟩) (by show w.heap.size ≤ wa.heap.size; omega) (.slice P3.M.mem.vA P3.M.mem.vs.length P3.M.mem.vc)) (p := ⟨wa.heap.size, 2, none⟩) (by show w.heap.size ≤ wa.heap.size; omega) (.slice P3.M.ln.fA P3.M.ln.first.length P3.M.ln.fc)) (p := ⟨wa.heap.size, 3, none⟩) (by show w.heap.size ≤ wa.heap.size; omega) (.slice P3.M.ln.lA P3.M.ln.logs.length P3.M.ln.lc)) (p := ⟨wa.heap.size, 4, none⟩) (by show w.heap.size ≤ wa.heap.size; omega) (.map P3.M.ln.asks)) (p := ⟨wa.heap.size, 5, none⟩) (by show w.heap.size ≤ wa.heap.size; omega) (.slice P3.M.sA P3.M.steps.length P3.M.sc)) (p := ⟨wa.heap.size, 6, none⟩) (by show w.heap.size ≤ wa.heap.size; omega) (.int .i64 P3.M.crashes)) (p := ⟨wa.heap.size, 7, none⟩) (by show w.heap.size ≤ wa.heap.size; omega) (.slice P3.tA P3.ts.length P3.tc)) (p := ⟨wa.heap.size, 8, none⟩) (by show w.heap.size ≤ wa.heap.size; omega) (.slice P3.sA P3.ss.length P3.sc))
                rw [← hwV]
                have hO5 := HOf2.out
                have hOff3 : Offs wa.heap.size wb.heap.size wc.heap.size P3 P2 := ⟨HP3O.out _ hza hO5.1, HP3O.out _ hbT hO5.2.1, HP3O.out _ hlT hO5.2.2.1, hO5.2.2.2.1, hO5.2.2.2.2.1, hO5.2.2.2.2.2⟩
                have HOf3 := hide hOff3
                obtain ⟨x', hx'⟩ := HP3.out
                have HP3' := hide hx'
                have hlV : wc.heap.size < wV.heap.size := HXl5.out.2.2
                clear hwV hO oP hO5 hOff3 f0 f1 f2 f3 f4 f5 f6 f7 f8 c0 c1 c2 c3 c4 c5 c6 c7 c8 dL fz hbU hx'
                go_wp2_with fail
                exact ⟨⟨k + 1, x', left, P3, P2, by go_num, by omega, HP3', HXa5, HXb5, HXl5, HOf3, HRP3, HRb5, hB5, hlV⟩, by simp [intOf]; omega⟩
            · obtain rfl : len = k := by omega
              have hw1 := word_last (two_word H2.out).1 (by omega)
              have hw2 := word_last (two_word H2.out).2 (by omega)
              have Hw1 := hide hw1
              have Hw2 := hide hw2
              have a0 := HXa3.out.at (j := 0) rfl
              have a1 := HXa3.out.at (j := 1) rfl
              have a2 := HXa3.out.at (j := 2) rfl
              have a3 := HXa3.out.at (j := 3) rfl
              have a4 := HXa3.out.at (j := 4) rfl
              have a5 := HXa3.out.at (j := 5) rfl
              have a6 := HXa3.out.at (j := 6) rfl
              have b0 := HXb3.out.at (j := 0) rfl
              have b1 := HXb3.out.at (j := 1) rfl
              have b2 := HXb3.out.at (j := 2) rfl
              have b3 := HXb3.out.at (j := 3) rfl
              have b4 := HXb3.out.at (j := 4) rfl
              have b5 := HXb3.out.at (j := 5) rfl
              have b6 := HXb3.out.at (j := 6) rfl
              have hzar : wa.heap.size < wr.heap.size := HXa3.out.2.2
              have hzbr : wb.heap.size < wr.heap.size := HXb3.out.2.2
              clear hw1 hw2
              go_upto_region 33 with (first
                | (go_at_call 10; refine (Hw1.out _ (HRa3.out.1.below ((by repeat' (first | with_reducible exact Below.refl _ _ | with_reducible assumption | with_reducible refine Below.alloc ?_ ?_ _ | with_reducible refine Below.setCell ?_ ?_ _ | with_reducible refine Below.drew ?_ | with_reducible refine below_drewN ?_ _ | with_reducible refine Below.trans ?_ (Below.mono (by with_reducible assumption) ?_) | omega | (simp <;> omega)))))).mono ?_; rintro e wu ⟨rfl, hbu⟩; obtain ⟨hccu, hffu⟩ := bcell hbu; have hsu := hbu.size; (try simp at hsu); have hzu : wb.heap.size < wu.heap.size := (by omega)))
              go_upto_region 34 with (first
                | (go_at_call 10; refine (Hw2.out _ (HRb3.out.1.below ((by repeat' (first | with_reducible exact Below.refl _ _ | with_reducible assumption | with_reducible refine Below.alloc ?_ ?_ _ | with_reducible refine Below.setCell ?_ ?_ _ | with_reducible refine Below.drew ?_ | with_reducible refine below_drewN ?_ _ | with_reducible refine Below.trans ?_ (Below.mono (by with_reducible assumption) ?_) | omega | (simp <;> omega)))))).mono ?_; rintro e wv ⟨rfl, hbv⟩; obtain ⟨hccv, hffv⟩ := bcell hbv; have hsv := hbv.size; (try simp at hsv)))
              obtain ⟨wz, hwz⟩ : ∃ W : World, W = wv.alloc (.cells #[.int .i64 x.v, .int .u32 x.r, .int .u32 x.f] 44) := ⟨_, rfl⟩
              have hbu' : Below wr.heap.size wr wu := by with_reducible exact hbu
              have hbuv : Below wu.heap.size wu wv := (Below.alloc (Below.refl wu.heap.size wu) (Nat.le_refl _) _).trans (hbv.mono (by simp))
              have hbvz : Below wv.heap.size wv wz := by rw [hwz]; exact Below.alloc (Below.refl _ _) (Nat.le_refl _) _
              have hbrz : Below wr.heap.size wr wz := hbu'.trans ((hbuv.trans (hbvz.mono hbuv.size)).mono hbu'.size)
              have HW1 : Hid (BoxC wu.heap.size [.int .i64 x.v, .int .u32 x.r, .int .u32 x.f] wz) := hide (((BoxC.made wu #[.int .i64 x.v, .int .u32 x.r, .int .u32 x.f] 44).below hbv).below hbvz)
              have HW2 : Hid (BoxC wv.heap.size [.int .i64 x.v, .int .u32 x.r, .int .u32 x.f] wz) := hide (by rw [hwz]; exact BoxC.made wv #[.int .i64 x.v, .int .u32 x.r, .int .u32 x.f] 44)
              have HRaz := hide (HRa3.out.below hbrz)
              have HRbz := hide (HRb3.out.below hbrz)
              have HXaz := hide (HXa3.out.below hbrz)
              have HXbz := hide (HXb3.out.below hbrz)
              have hBz0 : Below w.heap.size w wz := hBs.trans (hbrz.mono hBs.size)
              have hzuz : wu.heap.size < wz.heap.size := HW1.out.2.2
              have hzvz : wv.heap.size < wz.heap.size := HW2.out.2.2
              have hzaz : wa.heap.size < wz.heap.size := HXaz.out.2.2
              have hzbz : wb.heap.size < wz.heap.size := HXbz.out.2.2
              rw [← hwz]
              clear hwz hbu hbu' hbuv hbv hbvz hbrz hccu hffu hccv hffv a0 a1 a2 a3 a4 a5 a6 b0 b1 b2 b3 b4 b5 b6
              go_wp2_with fail
              go_loopw [26] (fun i wr => ∃ k : Nat, i = .int .i64 k ∧ k ≤ 3 ∧ Below wz.heap.size wz wr) (fun i _ => 3 - (intOf i).toNat)
              case atStart => exact ⟨0, rfl, by omega, Below.refl _ _⟩
              case round =>
                obtain ⟨k, rfl, hk, hBq⟩ := hrel
                have hsq := hBq.size
                by_cases hlt : (k : Int) < 3
                · have hk3 : k < 3 := by omega
                  obtain ⟨ka, kb, hka, hkb, hsim⟩ := H2.out.2.2 k hk3
                  obtain ⟨v, d, q, hAn, hIn, hQn⟩ := sim_answer hsim
                  have hR1 := HRaz.out.below hBq
                  have hR2 := HRbz.out.below hBq
                  have la : Pa.ts.length = 3 := H2.out.1.2.1
                  have lb : Pb.ts.length = 3 := H2.out.2.1.2.1
                  obtain ⟨bl, of, ea, hbl, hcl⟩ := Rd.elem hR1.2.1.2.2.1 taskc_len (by omega) hka
                  obtain ⟨bm, og, eb, hbm, hcm⟩ := Rd.elem hR2.2.1.2.2.1 taskc_len (by omega) hkb
                  obtain ⟨⟨Ta, pa, hca⟩, _⟩ := (hR1.2.1.2.2.2 ka (List.mem_of_getElem? hka)).2
                  obtain ⟨⟨Tb, pb, hcb⟩, _⟩ := (hR2.2.1.2.2.2 kb (List.mem_of_getElem? hkb)).2
                  have a7 := (HXaz.out.below hBq).at (j := 7) rfl
                  rw [ea, la] at a7
                  have b7 := (HXbz.out.below hBq).at (j := 7) rfl
                  rw [eb, lb] at b7
                  rw [hca] at hAn
                  rw [hcb] at hIn
                  have HAn := hide hAn
                  have HIn := hide hIn
                  have HQn := hide hQn
                  have s0 : wr.cell? ⟨bl, of + k * 11, none⟩ = some (.iface Ta pa) := (by have q := hcl 0 _ rfl; rw [hca] at q; exact q)
                  have s1 : wr.cell? ⟨bl, of + k * 11 + 1, none⟩ = some ka.nx := (hcl 1 _ rfl)
                  have s2 : wr.cell? ⟨bl, of + k * 11 + 2, none⟩ = some (.int .i64 ka.a.o) := (hcl 2 _ rfl)
                  have s3 : wr.cell? ⟨bl, of + k * 11 + 3, none⟩ = some (.int .i64 ka.a.l) := (hcl 3 _ rfl)
                  have s4 : wr.cell? ⟨bl, of + k * 11 + 4, none⟩ = some (.int .i64 ka.a.v) := (hcl 4 _ rfl)
                  have s5 : wr.cell? ⟨bl, of + k * 11 + 5, none⟩ = some (.int .u32 ka.a.r) := (hcl 5 _ rfl)
                  have s6 : wr.cell? ⟨bl, of + k * 11 + 6, none⟩ = some (.int .u32 ka.a.f) := (hcl 6 _ rfl)
                  have s7 : wr.cell? ⟨bl, of + k * 11 + 7, none⟩ = some (.int .i64 ka.a.v2) := (hcl 7 _ rfl)
                  have s8 : wr.cell? ⟨bl, of + k * 11 + 8, none⟩ = some (.int .u32 ka.a.r2) := (hcl 8 _ rfl)
                  have s9 : wr.cell? ⟨bl, of + k * 11 + 9, none⟩ = some (.int .u32 ka.a.f2) := (hcl 9 _ rfl)
                  have s10 : wr.cell? ⟨bl, of + k * 11 + 10, none⟩ = some (.slice ka.A ka.m ka.cp) := (hcl 10 _ rfl)
                  have t0 : wr.cell? ⟨bm, og + k * 11, none⟩ = some (.iface Tb pb) := (by have q := hcm 0 _ rfl; rw [hcb] at q; exact q)
                  have t1 : wr.cell? ⟨bm, og + k * 11 + 1, none⟩ = some kb.nx := (hcm 1 _ rfl)
                  have t2 : wr.cell? ⟨bm, og + k * 11 + 2, none⟩ = some (.int .i64 kb.a.o) := (hcm 2 _ rfl)
                  have t3 : wr.cell? ⟨bm, og + k * 11 + 3, none⟩ = some (.int .i64 kb.a.l) := (hcm 3 _ rfl)
                  have t4 : wr.cell? ⟨bm, og + k * 11 + 4, none⟩ = some (.int .i64 kb.a.v) := (hcm 4 _ rfl)
                  have t5 : wr.cell? ⟨bm, og + k * 11 + 5, none⟩ = some (.int .u32 kb.a.r) := (hcm 5 _ rfl)
                  have t6 : wr.cell? ⟨bm, og + k * 11 + 6, none⟩ = some (.int .u32 kb.a.f) := (hcm 6 _ rfl)
                  have t7 : wr.cell? ⟨bm, og + k * 11 + 7, none⟩ = some (.int .i64 kb.a.v2) := (hcm 7 _ rfl)
                  have t8 : wr.cell? ⟨bm, og + k * 11 + 8, none⟩ = some (.int .u32 kb.a.r2) := (hcm 8 _ rfl)
                  have t9 : wr.cell? ⟨bm, og + k * 11 + 9, none⟩ = some (.int .u32 kb.a.f2) := (hcm 9 _ rfl)
                  have t10 : wr.cell? ⟨bm, og + k * 11 + 10, none⟩ = some (.slice kb.A kb.m kb.cp) := (hcm 10 _ rfl)
                  have hza2 : wa.heap.size < wr.heap.size := by omega
                  have hzb2 : wb.heap.size < wr.heap.size := by omega
                  have j0 : (0 : Int) ≤ (k : Int) := by omega
                  clear hAn hIn hQn hsim la lb ea eb hcl hcm hR1 hR2 hca hcb hka hkb
                  go_upto_region 38 with (first
                    | (go_at_call 12; refine (tcode_any Ta pa ka.nx ka.a ka.A ka.m ka.cp _).mono ?_; rintro e w1 ⟨rfl, hb1⟩; obtain ⟨hcc1, hff1⟩ := bcell hb1; have hs1 := hb1.size; (try simp at hs1); have hzb1 : wb.heap.size < w1.heap.size := (by omega); have hbm1 : bm < w1.heap.size := (by omega))
                    | (go_at_call 11; refine (HAn.out _).mono ?_; rintro e w2 ⟨rfl, hb2⟩; obtain ⟨hcc2, hff2⟩ := bcell hb2; have hs2 := hb2.size; (try simp at hs2); have hzb3 : wb.heap.size < w2.heap.size := (by omega); have hbm3 : bm < w2.heap.size := (by omega)))
                  go_upto_region 39 with (first
                    | (go_at_call 12; refine (tcode_any Tb pb kb.nx kb.a kb.A kb.m kb.cp _).mono ?_; rintro e w3 ⟨rfl, hb3⟩; obtain ⟨hcc3, hff3⟩ := bcell hb3; have hs3 := hb3.size; (try simp at hs3))
                    | (go_at_call 13; refine (HIn.out _).mono ?_; rintro e w4 ⟨rfl, hb4⟩; obtain ⟨hcc4, hff4⟩ := bcell hb4; have hs4 := hb4.size; (try simp at hs4))
                    | (go_at_call 11; refine (HQn.out _).mono ?_; rintro e w5 ⟨rfl, hb5⟩; obtain ⟨hcc5, hff5⟩ := bcell hb5; have hs5 := hb5.size; (try simp at hs5)))
                  have hB5 : Below wz.heap.size wz w5 := (by repeat' (first | with_reducible exact Below.refl _ _ | with_reducible assumption | with_reducible refine Below.alloc ?_ ?_ _ | with_reducible refine Below.setCell ?_ ?_ _ | with_reducible refine Below.drew ?_ | with_reducible refine below_drewN ?_ _ | with_reducible refine Below.trans ?_ (Below.mono (by with_reducible assumption) ?_) | omega | (simp <;> omega)))
                  clear hcc1 hff1 hcc2 hff2 hcc3 hff3 hcc4 hff4 hcc5 hff5 hb1 hb2 hb3 hb4 hb5
                  cases d
                  all_goals go_wp2_with fail
                  all_goals exact ⟨⟨k + 1, by go_num, by omega, hB5⟩, by simp [intOf]; omega⟩
                · obtain rfl : k = 3 := by omega
                  have hX1 := HW1.out.below hBq
                  have hX2 := HW2.out.below hBq
                  have d0 := hX1.at (j := 0) rfl
                  have d1 := hX1.at (j := 1) rfl
                  have d2 := hX1.at (j := 2) rfl
                  have f0 := hX2.at (j := 0) rfl
                  have f1 := hX2.at (j := 1) rfl
                  have f2 := hX2.at (j := 2) rfl
                  have hq : ∀ W, (binOp .eql 44 (.agg #[.int .i64 x.v, .int .u32 x.r, .int .u32 x.f]) (.agg #[.int .i64 x.v, .int .u32 x.r, .int .u32 x.f])).run Try.prog W = .ok (.bool true) W := fun W => by rw [eqWord, eq3_self]
                  have hBend : Below w.heap.size w wr := hBz0.trans (hBq.mono hBz0.size)
                  clear hX1 hX2
                  go_wp2
                  go_ret
                  exact ⟨rfl, hBend⟩
end Go.Proofs.Ytmjkopejbdipcaa.lawChanges
