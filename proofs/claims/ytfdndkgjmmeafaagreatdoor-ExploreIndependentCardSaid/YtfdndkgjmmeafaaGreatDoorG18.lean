/- Package memory: with, finds. -/
import Derived.OwnWalk
import Derived.Test.YtfdndkgjmmeafaaGreatDoorG11
import Derived.Test.YtfdndkgjmmeafaaGreatDoorG16
namespace Go.Proofs.YtfdndkgjmmeafaaGreatDoor
set_option linter.unusedSimpArgs false
set_option linter.unusedVariables false
open Go.RowKit Go.Maps
theorem info_view : (Tryz.prog.info? 133).map (fun i => (i.zero, i.size, i.bytes)) = some (some (.agg #[.map none]), 1, 8) := by kernel_rfl
theorem Rd.set {α : Type} {w : World} {B b n k : Nat} {g : α → Value} {l : List α} (h : Rd w B 1 (some ⟨b, 0, none⟩) n (l.map g)) (hk : k < n) (a : α) : Rd (w.setCell ⟨b, k, none⟩ (g a)) B 1 (some ⟨b, 0, none⟩) n ((l.set k a).map g) := by
  obtain ⟨h1, h2⟩ := h
  rw [List.length_map] at h1
  refine ⟨by rw [List.length_map, List.length_set]; exact h1, fun hn => ?_⟩
  obtain ⟨b', off, e, hB, hc⟩ := h2 hn
  injection e with e
  injection e with e1 e2
  subst e1 e2
  refine ⟨b, 0, rfl, hB, fun j u hu => ?_⟩
  rw [List.getElem?_map] at hu
  rw [Nat.zero_add]
  by_cases hj : j = k
  · subst hj
    rw [List.getElem?_set_self (by omega)] at hu
    injection hu with hu
    subst hu
    obtain ⟨x, hx⟩ : ∃ x, l[j]? = some x := ⟨_, List.getElem?_eq_getElem (by omega)⟩
    have hold := hc j (g x) (by rw [List.getElem?_map, hx]; rfl)
    rw [Nat.zero_add] at hold
    simp [go_sem, hold]
  · rw [List.getElem?_set_ne (fun e => hj (by omega))] at hu
    rw [World.cell?_setCell_other _ _ _ _ (by intro e; injection e with _ e; exact hj e.symm)]
    have := hc j u (by rw [List.getElem?_map]; exact hu)
    rwa [Nat.zero_add] at this
theorem splice_whole {α : Type} (cur cs : List α) (h : cs.length = cur.length) : splice cur 0 cs = cs := by simp [splice, h]
theorem rd_of_row {w : World} {g n : Nat} {xs : List Value} {t : TypeId} (h : w.heap[g]? = some (.cells xs.toArray t (0, 0))) (hl : xs.length = n * 1) : Rd w w.heap.size 1 (some ⟨g, 0, none⟩) n xs :=
  ⟨hl, fun _ => ⟨g, 0, rfl, (Array.getElem?_eq_some_iff.1 h).1, fun j u hu => by
    rw [Nat.zero_add]
    simp only [World.cell?, h]
    simpa using hu⟩⟩
theorem frozen_of_row {w : World} {g : Nat} {xs : List Value} {t : TypeId} (h : w.heap[g]? = some (.cells xs.toArray t (0, 0))) (o : Nat) : w.frozen? ⟨g, o, none⟩ = false := by
  simp [World.frozen?, h]
theorem cell_of_row {w : World} {g k : Nat} {xs : List Value} {t : TypeId} (h : w.heap[g]? = some (.cells xs.toArray t (0, 0))) (hk : k < xs.length) : ∃ u, w.cell? ⟨g, k, none⟩ = some u := ⟨xs[k], by simp [World.cell?, h, hk]⟩
/-- A memory with another view of a thread. -/
def MemV.with (m : MemV) (A : Option Addr) (c t : Nat) (a : VwV) : MemV := ⟨m.pA, m.pc, m.hs, A, c, m.vs.set t a⟩
theorem MemV.with_R {m : MemV} {w w' : World} {g t n : Nat} {a : VwV} (h : m.R w) (hb : Below w.heap.size w w') (hn : m.vs.length = n) (hr : Rd w' w'.heap.size 1 (some ⟨g, 0, none⟩) n ((m.vs.set t a).map vwv)) (ha : a.R m.hs.length w') : (m.with (some ⟨g, 0, none⟩) n t a).R w' := by
  have hF := h.below hb
  have e1 : (m.vs.set t a).length = n := by rw [List.length_set, hn]
  refine ⟨hF.1, ?_⟩
  show (m.vs.set t a).length ≤ n ∧ ((some ⟨g, 0, none⟩ : Option Addr) = none → (m.vs.set t a).length = 0) ∧ Rd w' w'.heap.size 1 (some ⟨g, 0, none⟩) (m.vs.set t a).length ((m.vs.set t a).map vwv) ∧ ∀ x ∈ m.vs.set t a, x.R m.hs.length w'
  rw [e1]
  refine ⟨Nat.le_refl n, (fun e => by cases e), hr, (fun x hx => ?_)⟩
  rcases List.mem_or_eq_of_mem_set hx with hx | rfl
  · exact hF.2.2.2.2 x hx
  · exact ha
theorem MemV.with_rd {m : MemV} {w : World} {g t n : Nat} {a : VwV} (h : (m.with (some ⟨g, 0, none⟩) n t a).R w) (hn : m.vs.length = n) : Rd w w.heap.size 1 (some ⟨g, 0, none⟩) n ((m.vs.set t a).map vwv) := by
  have h1 : Rd w w.heap.size 1 (some ⟨g, 0, none⟩) (m.vs.set t a).length ((m.vs.set t a).map vwv) := h.2.2.2.1
  rwa [List.length_set, hn] at h1
set_option maxHeartbeats 2000000 in
set_option maxRecDepth 100000 in
theorem mem_with (m : MemV) (t : Nat) (a : VwV) (w : World) (hR : m.R w) (ht : t < m.vs.length) (hn : m.vs.length ≤ 1000) (ha : a.R m.hs.length w) : Calls Tryz.prog 170 #[(.agg #[.slice (m).pA (m).hs.length (m).pc, .slice (m).vA (m).vs.length (m).vc]), .int .i64 ((t : Int) + 1), .agg #[.map a.v]] w fun e w' => ∃ g, e = .returned (.agg #[.slice m.pA m.hs.length m.pc, .slice (some ⟨g, 0, none⟩) m.vs.length m.vs.length]) ∧ w.heap.size ≤ g ∧ (m.with (some ⟨g, 0, none⟩) m.vs.length t a).R w' ∧ Below w.heap.size w w' := by
  obtain ⟨i0, hi, iz0, iz1, iz2⟩ := info_parts info_view
  obtain ⟨pA, pc, hs, vA, vc, vs⟩ := m
  obtain ⟨n, hvn⟩ : ∃ n, n = vs.length := ⟨_, rfl⟩
  simp only at ht hn ha
  have HR := hide hR
  have Ha := hide ha
  obtain ⟨-, hvc, hvA, hrd, -⟩ := hR
  simp only at hvc hvA hrd
  rw [← hvn] at hrd ht hn hvc
  simp only [← hvn]
  have hxl : (vs.map vwv).length = n * 1 := by rw [List.length_map, ← hvn, Nat.mul_one]
  have hx1 : ∀ v ∈ vs.map vwv, v.oneCell' = true := by
    intro v hv
    obtain ⟨x, -, rfl⟩ := List.mem_map.1 hv
    rfl
  have hsrc := Rd.src hrd n (Nat.le_refl _)
  have Hsrc := hide hsrc
  have Hxl := hide hxl
  have Hvn := hide hvn
  have Hrd := hide hrd
  have h0 : (0 : Int) ≤ (t : Int) := by omega
  have h1 : (t : Int) < (n : Int) := by omega
  have hw1 : IntKind.i64.wrap ((t : Int) + 1 - 1) = (t : Int) := by rw [show (t : Int) + 1 - 1 = (t : Int) by omega]; exact IntWalk.i64_in _ (by omega)
  have hw2 : IntKind.i64.wrap (t : Int) = (t : Int) := IntWalk.i64_in _ (by omega)
  clear hrd hsrc hxl hvn ha
  go_enter Tryz.func170, Tryz.ntmps170
  go_wp2_with (first
    | (at_make; refine wpList_make_full _ rfl _ _ 32 rfl w.heap.size 133 i0 _ 1 Tryz.underlying32 hi iz0 iz1 _ _ _ _ n rfl rfl rfl rfl (by rw [iz2]; omega) (by unfold maxLen; omega) (by simp; omega) ?_; intro w1 hown hgr; have hb1 := Below.grown (Below.refl _ _) hgr (Nat.le_refl _) (fun k hk => by cases hk); obtain ⟨hcc1, hff1⟩ := bcell hb1; have hs1 := hb1.size; (try simp at hs1); obtain ⟨hrow, -⟩ := row_of_own hown; have hmz : (madeCells (Value.agg #[Value.map none]).cells (n * 1)).toList.length = n * 1 := hown.1; obtain ⟨cur, hcur⟩ : ∃ cur, cur = (madeCells (Value.agg #[Value.map none]).cells (n * 1)).toList := ⟨_, rfl⟩; rw [← hcur] at hrow hmz; have hrow1 : w1.heap[w.heap.size + 1 + 1 + 1]? = some (.cells cur.toArray 133 (0, 0)) := (by simpa using hrow); have Hrow := hide hrow1; have Hmz := hide hmz; have hlt1 : w.heap.size + 1 + 1 + 1 < w1.heap.size := (Array.getElem?_eq_some_iff.1 hrow1).1; have hB1 : Below w.heap.size w w1 := (by first | exact ab0); clear hrow1 hrow hown hgr hcur hmz; have hz1 : w.heap.size < w1.heap.size := (by omega))
    | (refine wpList_copy_rows rfl (.tmp 12) (.tmp 14) 32 32 rfl 133 Tryz.underlying32 i0 hi 1 iz1 _ _ _ _ _ _ rfl rfl (w.heap.size + 1 + 1 + 1) 0 cur 133 Hrow.out (vs.map vwv) n (Nat.min_self _).symm Hxl.out (fun h0 => ⟨rfl, by obtain ⟨ad, e, hc⟩ := Hsrc.out h0; refine ⟨ad, e, fun j v hv => ?_⟩; rw [List.take_of_length_le (by rw [Hxl.out]; omega)] at hc; exact (hB1.cell (by obtain ⟨b, off, e2, hb, _⟩ := Hrd.out.2 (by omega); rw [e] at e2; injection e2 with e2; subst e2; unfold Addr.add; split <;> exact hb)).trans (hc j v hv)⟩) (by rw [Hxl.out, Hmz.out]; omega) hx1 (w.heap.size + 1 + 1 + 1) w1 (Below.refl _ _) (Nat.le_refl _) ?_; intro w2 hrow2 hB2; rw [splice_whole cur (vs.map vwv) (by rw [Hxl.out, Hmz.out])] at hrow2; have hcc2 : ∀ b o, b < w.heap.size + 1 + 1 + 1 → w2.cell? ⟨b, o, none⟩ = w1.cell? ⟨b, o, none⟩ := (bcellB hB2).1; have hff2 : ∀ b o, b < w.heap.size + 1 + 1 + 1 → w2.frozen? ⟨b, o, none⟩ = w1.frozen? ⟨b, o, none⟩ := (bcellB hB2).2; have hlt2 : w.heap.size + 1 + 1 + 1 < w2.heap.size := (Array.getElem?_eq_some_iff.1 hrow2.out).1; have hRd2 : Hid (Rd w2 w2.heap.size 1 (some ⟨w.heap.size + 1 + 1 + 1, 0, none⟩) n (vs.map vwv)) := hide (rd_of_row hrow2.out Hxl.out); have hfz : ∀ o, w2.frozen? ⟨w.heap.size + 1 + 1 + 1, o, none⟩ = false := (frozen_of_row hrow2.out); obtain ⟨u0, hu0⟩ : ∃ u, w2.cell? ⟨w.heap.size + 1 + 1 + 1, t, none⟩ = some u := cell_of_row hrow2.out (by rw [Hxl.out]; omega); have e9 : (w2.setCell ⟨w.heap.size + 1 + 1 + 1, t, none⟩ (.map a.v)).cell? ⟨w.heap.size, 1, none⟩ = some (.slice vA n vc) := (by go_simp); have e8 : ∀ v, ((w2.setCell ⟨w.heap.size + 1 + 1 + 1, t, none⟩ (.map a.v)).setCell ⟨w.heap.size, 1, none⟩ v).cell? ⟨w.heap.size, 1, none⟩ = some v := (fun v => by simp [go_sem, e9])))
  obtain ⟨wF, hwF⟩ : ∃ wF : World, wF = ((((w2.setCell ⟨w.heap.size + 1 + 1 + 1, t, none⟩ (.map a.v)).setCell ⟨w.heap.size, 1, none⟩ (.slice (some ⟨w.heap.size + 1 + 1 + 1, 0, none⟩) n n)).setCell ⟨w.heap.size + 1 + 1, 0, none⟩ (.slice pA hs.length pc)).setCell ⟨w.heap.size + 1 + 1, 1, none⟩ (.slice (some ⟨w.heap.size + 1 + 1 + 1, 0, none⟩) n n)) := ⟨_, rfl⟩
  have hBF : Below w.heap.size w wF := by
    have h2 : Below w.heap.size w w2 := hB1.trans (hB2.mono (by omega))
    rw [hwF]
    exact ab0
  have hsF : wF.heap.size = w2.heap.size := by rw [hwF]; simp
  refine bodyPost_ret (v := .agg #[.slice pA hs.length pc, .slice (some ⟨w.heap.size + 1 + 1 + 1, 0, none⟩) n n]) (by simp [results, Tryz.results170, go_sem]; (try go_simp)) rfl ⟨_, rfl, by omega, ?_, ?_⟩
  · rw [← hwF]
    have hRF := (HR.out.below hBF)
    have e1 : (vs.set t a).length = n := by rw [List.length_set, Hvn.out]
    refine ⟨hRF.1, ?_⟩
    show (vs.set t a).length ≤ n ∧ ((some ⟨w.heap.size + 1 + 1 + 1, 0, none⟩ : Option Addr) = none → (vs.set t a).length = 0) ∧ Rd wF wF.heap.size 1 (some ⟨w.heap.size + 1 + 1 + 1, 0, none⟩) (vs.set t a).length ((vs.set t a).map vwv) ∧ ∀ x ∈ vs.set t a, x.R hs.length wF
    rw [e1]
    refine ⟨Nat.le_refl n, (fun e => by cases e), ?_, (fun x hx => ?_)⟩
    · rw [hsF, hwF]
      refine Rd.set_far (Rd.set_far (Rd.set_far (Rd.set hRd2.out ht a) (by omega) _) (by omega) _) (by omega) _
    · rcases List.mem_or_eq_of_mem_set hx with hx | rfl
      · exact hRF.2.2.2.2 x hx
      · exact Ha.out.below hBF
  · rw [← hwF]
    exact hBF
end Go.Proofs.YtfdndkgjmmeafaaGreatDoor

