/- Package shrink: a schedule without one pick. -/
import Derived.Test.YtmpbaanlagmacaaS5
import Derived.Deep.RegionLaw
namespace Go.Proofs.Ytmpbaanlagmacaa
open Go.RowKit

set_option maxHeartbeats 1000000 in
set_option maxRecDepth 100000 in
theorem without_any (b off m cap i : Nat) (l : List Pk) (B : Nat) (w : World) (hl : l.length = m + 1) (hm : m ≤ 1000) (hcap : m + 1 ≤ cap) (him : i ≤ m)
    (hB : B ≤ w.heap.size) (hr : Rd w B 3 (some ⟨b, off, none⟩) (m + 1) (l.flatMap pkc)) :
    Calls Try.prog 55 #[.slice (some ⟨b, off, none⟩) (m + 1) cap, .int .i64 i] w fun e w' => e = .returned (.slice (some ⟨w.heap.size, 0, none⟩) m m) ∧ w'.heap[w.heap.size]? = some (.cells ((l.eraseIdx i).flatMap pkc).toArray 82 (0, 0)) ∧ Below w.heap.size w w' := by
  obtain ⟨i0, hi, iz0, iz1, iz2⟩ := info_parts info_pickA
  have ea : IntKind.i64.wrap ((i : Int) + 1) = (i : Int) + 1 := IntWalk.i64_in _ (by omega)
  have em : IntKind.i64.wrap ((m : Int) + 1 - 1) = m := by rw [show (m : Int) + 1 - 1 = m by omega]; exact IntWalk.i64_in _ (by omega)
  have e3 : ((i : Int) + 1).toNat = i + 1 := by omega
  have hflat : l.flatMap pkc = (l.take i).flatMap pkc ++ (l.drop i).flatMap pkc := by rw [← List.flatMap_append, List.take_append_drop]
  have hflat2 : l.flatMap pkc = (l.take (i + 1)).flatMap pkc ++ (l.drop (i + 1)).flatMap pkc := by rw [← List.flatMap_append, List.take_append_drop]
  have hL1 : ((l.take i).flatMap pkc).length = i * 3 := by rw [pkc_flat, List.length_take, hl, Nat.min_eq_left (by omega)]
  have hL1' : ((l.take (i + 1)).flatMap pkc).length = (i + 1) * 3 := by rw [pkc_flat, List.length_take, hl, Nat.min_eq_left (by omega)]
  have hL2 : ((l.drop (i + 1)).flatMap pkc).length = (m - i) * 3 := by rw [pkc_flat, List.length_drop, hl]; congr 1; omega
  obtain ⟨b', off', eA, hbB, hcA⟩ := hr.at_ (k := 0) (by omega)
  injection eA with eA
  injection eA with eA1 eA2
  subst eA1 eA2
  have hadd : ∀ o j : Nat, (⟨b, o, none⟩ : Addr).add j = ⟨b, o + j, none⟩ := fun o j => by unfold Addr.add; split <;> simp_all
  have Hs1 : Hid (∀ W, Below w.heap.size w W → ∀ j v, ((l.take i).flatMap pkc)[j]? = some v → W.cell? ((⟨b, off, none⟩ : Addr).add j) = some v) := hide fun W hb j v hv => by
    rw [hadd, hb.cell (p := ⟨b, off + j, none⟩) (by show b < _; omega)]
    refine hcA j v ?_
    rw [hflat, List.getElem?_append_left (List.getElem?_eq_some_iff.1 hv).1]
    exact hv
  have Hs2 : Hid (∀ W, Below w.heap.size w W → ∀ j v, ((l.drop (i + 1)).flatMap pkc)[j]? = some v → W.cell? ((⟨b, off + (i + 1) * 3, none⟩ : Addr).add j) = some v) := hide fun W hb j v hv => by
    rw [hadd, Nat.add_assoc, hb.cell (p := ⟨b, off + ((i + 1) * 3 + j), none⟩) (by show b < _; omega)]
    refine hcA _ v ?_
    rw [hflat2, List.getElem?_append_right (by omega), hL1']
    rw [show (i + 1) * 3 + j - (i + 1) * 3 = j by omega]
    exact hv
  have Hfin : Hid (∀ cur : List Value, cur.length = m * 3 → splice (splice cur 0 ((l.take i).flatMap pkc)) (i * 3) ((l.drop (i + 1)).flatMap pkc) = (l.eraseIdx i).flatMap pkc) := hide fun cur hc => by
    rw [List.eraseIdx_eq_take_drop_succ, List.flatMap_append]
    have h1 : splice cur 0 ((l.take i).flatMap pkc) = (l.take i).flatMap pkc ++ cur.drop (i * 3) := by simp [splice, hL1]
    rw [h1]
    have h2 : ((l.take i).flatMap pkc ++ cur.drop (i * 3)).drop (i * 3 + (m - i) * 3) = [] := List.drop_eq_nil_of_le (by rw [List.length_append, List.length_drop, hL1, hc]; omega)
    unfold splice
    rw [List.take_append_of_le_length (by omega), List.take_of_length_le (by omega), hL2, h2, List.append_nil]
  obtain ⟨c1, hc1⟩ : ∃ c1, c1 = (l.take i).flatMap pkc := ⟨_, rfl⟩
  obtain ⟨c2, hc2⟩ : ∃ c2, c2 = (l.drop (i + 1)).flatMap pkc := ⟨_, rfl⟩
  have Ho1 : Hid (∀ v ∈ c1, v.oneCell' = true) := hide (hc1 ▸ pkc_ones _)
  have Ho2 : Hid (∀ v ∈ c2, v.oneCell' = true) := hide (hc2 ▸ pkc_ones _)
  rw [← hc1] at Hs1 hL1
  rw [← hc2] at Hs2 hL2
  rw [← hc1, ← hc2] at Hfin
  clear hc1 hc2 hflat hflat2 hcA hr hL1'
  have him1 : i < m ∨ (i = m ∧ cap = m + 1) ∨ (i = m ∧ m + 1 < cap) := by omega
  go_enter Try.func55, Try.ntmps55
  go_wp2_with (first
    | (at_make; refine wpList_make_full _ rfl _ _ 63 rfl w.heap.size 82 i0 _ 3 Try.underlying63 hi iz0 iz1 _ _ _ _ m rfl rfl rfl rfl (by rw [iz2]; omega) (by unfold maxLen; omega) (by simp) ?_; intro w1 hown hgr; obtain ⟨hrow, -⟩ := row_of_own hown; have hmz : (madeCells (Value.agg #[Value.int IntKind.i64 0, Value.int IntKind.i64 0, Value.int IntKind.i64 0]).cells (m * 3)).toList.length = m * 3 := hown.1; obtain ⟨cur, hcur⟩ : ∃ cur, cur = (madeCells (Value.agg #[Value.int IntKind.i64 0, Value.int IntKind.i64 0, Value.int IntKind.i64 0]).cells (m * 3)).toList := ⟨_, rfl⟩; rw [← hcur] at hrow hmz; have hB1 : Below w.heap.size w w1 := below_row (Below.refl _ _) hgr (by omega)))
  rcases him1 with h1 | ⟨rfl, rfl⟩ | ⟨rfl, h1⟩
  · have hic : i ≤ cap := by omega
    have hic1 : i + 1 ≤ cap := by omega
    have h0i : 0 ≤ (i : Int) + 1 := by omega
    have hii : (i : Int) ≤ (i : Int) + 1 := by omega
    have hne1 : ¬ cap = i + 1 := by omega
    have hne2 : ¬ m = i := by omega
    go_region_law (first
      | (refine step_copy_rows rfl (.tmp 11) (.tmp 14) 63 63 rfl 82 Try.underlying63 i0 hi 3 iz1 (some ⟨w.heap.size, 0, none⟩) (some ⟨b, off, none⟩) m m i cap (by simp [Act.eval, Act.put]) (by simp [Act.eval, Act.put]) w.heap.size 0 cur 82 hrow c1 i (Nat.min_eq_left him).symm hL1 (fun _ => ⟨rfl, _, rfl, Hs1.out _ hB1.drew⟩) (by omega) Ho1.out w.heap.size w hB1.drew (Nat.le_refl _) ?_; intro w2 hrow2 hB2)
      | (refine step_copy_rows rfl (.tmp 16) (.tmp 20) 63 63 rfl 82 Try.underlying63 i0 hi 3 iz1 (some ⟨w.heap.size, i * 3, none⟩) (some ⟨b, off + (i + 1) * 3, none⟩) (m - i) (m - i) (m - i) (cap - (i + 1)) (by simp [Act.eval, Act.put]) (by simp [Act.eval, Act.put]) w.heap.size (i * 3) (splice cur 0 c1) 82 hrow2.out c2 (m - i) (Nat.min_self _).symm hL2 (fun _ => ⟨rfl, _, rfl, Hs2.out _ hB2⟩) (by rw [length_splice] <;> omega) Ho2.out w.heap.size w hB2 (Nat.le_refl _) ?_; intro w3 hrow3 hB3))
    all_goals (rw [Hfin.out cur hmz] at hrow3; have hrow4 := hrow3.out; go_wp2; go_ret; exact ⟨rfl, hrow4, hB3⟩)
  · have hic : i ≤ i + 1 := by omega
    have hic1 : i + 1 ≤ i + 1 := by omega
    have h0i : 0 ≤ (i : Int) + 1 := by omega
    have hii : (i : Int) ≤ (i : Int) + 1 := by omega
    go_region_law (first
      | (refine step_copy_rows rfl (.tmp 11) (.tmp 14) 63 63 rfl 82 Try.underlying63 i0 hi 3 iz1 (some ⟨w.heap.size, 0, none⟩) (some ⟨b, off, none⟩) i i i (i + 1) (by simp [Act.eval, Act.put]) (by simp [Act.eval, Act.put]) w.heap.size 0 cur 82 hrow c1 i (Nat.min_self _).symm hL1 (fun _ => ⟨rfl, _, rfl, Hs1.out _ hB1.drew⟩) (by omega) Ho1.out w.heap.size w hB1.drew (Nat.le_refl _) ?_; intro w2 hrow2 hB2)
      | (refine step_copy_rows rfl (.tmp 16) (.tmp 20) 63 63 rfl 82 Try.underlying63 i0 hi 3 iz1 (some ⟨w.heap.size, 0, none⟩) (some ⟨b, off, none⟩) 0 0 0 (0) (by simp [Act.eval, Act.put]) (by simp [Act.eval, Act.put]) w.heap.size (i * 3) (splice cur 0 c1) 82 hrow2.out c2 0 rfl (by omega) (fun h0 => absurd h0 (Nat.lt_irrefl 0)) (by rw [length_splice] <;> omega) Ho2.out w.heap.size w hB2 (Nat.le_refl _) ?_; intro w3 hrow3 hB3))
    all_goals (rw [Hfin.out cur hmz] at hrow3; have hrow4 := hrow3.out; go_wp2; go_ret; exact ⟨rfl, hrow4, hB3⟩)
  · have hic : i ≤ cap := by omega
    have hic1 : i + 1 ≤ cap := by omega
    have h0i : 0 ≤ (i : Int) + 1 := by omega
    have hii : (i : Int) ≤ (i : Int) + 1 := by omega
    have hne1 : ¬ cap = i + 1 := by omega
    go_region_law (first
      | (refine step_copy_rows rfl (.tmp 11) (.tmp 14) 63 63 rfl 82 Try.underlying63 i0 hi 3 iz1 (some ⟨w.heap.size, 0, none⟩) (some ⟨b, off, none⟩) i i i (cap) (by simp [Act.eval, Act.put]) (by simp [Act.eval, Act.put]) w.heap.size 0 cur 82 hrow c1 i (Nat.min_self _).symm hL1 (fun _ => ⟨rfl, _, rfl, Hs1.out _ hB1.drew⟩) (by omega) Ho1.out w.heap.size w hB1.drew (Nat.le_refl _) ?_; intro w2 hrow2 hB2)
      | (refine step_copy_rows rfl (.tmp 16) (.tmp 20) 63 63 rfl 82 Try.underlying63 i0 hi 3 iz1 (some ⟨w.heap.size, 0, none⟩) (some ⟨b, off + (i + 1) * 3, none⟩) 0 0 0 (cap - (i + 1)) (by simp [Act.eval, Act.put]) (by simp [Act.eval, Act.put]) w.heap.size (i * 3) (splice cur 0 c1) 82 hrow2.out c2 0 rfl (by omega) (fun h0 => absurd h0 (Nat.lt_irrefl 0)) (by rw [length_splice] <;> omega) Ho2.out w.heap.size w hB2 (Nat.le_refl _) ?_; intro w3 hrow3 hB3))
    all_goals (rw [Hfin.out cur hmz] at hrow3; have hrow4 := hrow3.out; go_wp2; go_ret; exact ⟨rfl, hrow4, hB3⟩)

end Go.Proofs.Ytmpbaanlagmacaa
