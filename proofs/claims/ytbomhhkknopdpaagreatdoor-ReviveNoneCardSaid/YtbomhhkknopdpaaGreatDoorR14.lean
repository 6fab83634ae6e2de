/- Package revive: Check. -/
import Derived.Test.YtbomhhkknopdpaaGreatDoorR11
import Derived.Test.YtbomhhkknopdpaaGreatDoorR12
import Derived.Test.YtbomhhkknopdpaaGreatDoorR13
namespace Go.Proofs.YtbomhhkknopdpaaGreatDoor
set_option linter.unusedSimpArgs false
set_option linter.unusedVariables false
open Go.RowKit
/-- The numbers of the rules among the first k that are false. -/
def outTo (cs : List Bool) (k : Nat) : List Int := ((List.range k).filter (fun i => !cs.getD i true)).map (fun i : Nat => (i : Int) + 1)
theorem outTo_succ (cs : List Bool) (k : Nat) : outTo cs (k + 1) = outTo cs k ++ if cs.getD k true = true then [] else [(k : Int) + 1] := by
  unfold outTo
  rw [List.range_succ, List.filter_append, List.map_append]
  congr 1
  cases h : cs.getD k true <;> simp [List.filter_cons, List.getD_eq_getElem?_getD] at h ⊢ <;> simp [h]
theorem outTo_len (cs : List Bool) (k : Nat) : (outTo cs k).length ≤ k := by
  unfold outTo
  rw [List.length_map]
  refine Nat.le_trans (List.length_filter_le _ _) ?_
  simp
/-- The violated rules. -/
def checkL (T C B : Int) (ws : List W3) : List Int := outTo [cleanL T C B ws, recsL T C B ws T.toNat, swapsL T C B ws, bitsL T C B ws, clocksL ws] 5
set_option maxHeartbeats 4000000 in
set_option maxRecDepth 100000 in
theorem vcheck_ok (T C B : Int) (b n cap : Nat) (ws : List W3) (w : World) (hv : Valid T C B) (hs : Sizes w) (hM : Mem b ws w) (hl : ws.length = n) (hnm : n ≤ 1000000) (hcap : n ≤ cap) (hok : ∀ x ∈ ws, x.ok) (hn : fromL T C B 7 = (n : Int)) (hB8 : B ≤ 8) (hn8 : 8 ≤ n) :
    Calls Tryz.prog 13 #[(.agg #[.int .i64 T, .int .i64 C, .int .i64 B]), .slice (some ⟨b, 0, none⟩) n cap] w (LocsPost (checkL T C B ws) w) := by
  have hp := hs.pos
  obtain ⟨i0, hi, iz0, iz1, iz2⟩ := info_parts info_int
  have hvr := fun W hs' => vright_ok T C B b n cap W hv hs' hn
  have h0 := fun W hs' hM' => clean_ok T C B b n cap ws W hv hs' hM' hl hnm hn
  have h1 := fun W hs' hM' => records_ok T C B b n cap ws W hv hs' hM' hl hnm hcap hok hn
  have h2 := fun W hs' hM' => swaps_ok T C B b n cap ws W hv hs' hM' hl hnm hn
  have h3 := fun W hs' hM' => vbits_ok T C B b n cap ws W hv hs' hM' hl hnm hn hB8
  have h4 := fun W hs' hM' => clocks_ok T C B b n cap ws W hv hs' hM' hl hn8
  unfold checkL
  obtain ⟨c0, hc0⟩ : ∃ c, c = cleanL T C B ws := ⟨_, rfl⟩
  obtain ⟨c1, hc1⟩ : ∃ c, c = recsL T C B ws T.toNat := ⟨_, rfl⟩
  obtain ⟨c2, hc2⟩ : ∃ c, c = swapsL T C B ws := ⟨_, rfl⟩
  obtain ⟨c3, hc3⟩ : ∃ c, c = bitsL T C B ws := ⟨_, rfl⟩
  obtain ⟨c4, hc4⟩ : ∃ c, c = clocksL ws := ⟨_, rfl⟩
  simp only [← hc0] at h0
  simp only [← hc1] at h1
  simp only [← hc2] at h2
  simp only [← hc3] at h3
  simp only [← hc4] at h4
  rw [← hc0, ← hc1, ← hc2, ← hc3, ← hc4]
  obtain ⟨cs, hcs⟩ : ∃ cs, cs = [c0, c1, c2, c3, c4] := ⟨_, rfl⟩
  rw [← hcs]
  have Hvr := hide hvr
  have H0 := hide h0
  have H1 := hide h1
  have H2 := hide h2
  have H3 := hide h3
  have H4 := hide h4
  have Hcs := hide hcs
  have HM := hide hM
  clear hvr h0 h1 h2 h3 h4 hc0 hc1 hc2 hc3 hc4 hcs hM hl hok hn
  go_enter Tryz.func13, Tryz.ntmps13
  go_wp2_with (first
    | (go_at_call 40; refine (Hvr.out _ (hs.below (by repeat' (first | with_reducible exact Below.refl _ _ | with_reducible assumption | with_reducible refine Below.alloc ?_ ?_ _ | with_reducible refine Below.setCell ?_ ?_ _ | with_reducible refine Below.drew ?_ | with_reducible refine below_drewN ?_ _ | with_reducible refine Below.trans ?_ (Below.mono (by with_reducible assumption) ?_) | omega | (simp <;> omega))))).mono ?_; rintro e w1 ⟨rfl, hb1⟩; obtain ⟨hcc1, hff1⟩ := bcell hb1; have hs1 := hb1.size; (try simp at hs1); have hz1 : w.heap.size < w1.heap.size := (by omega)))
  obtain ⟨w2, hw2⟩ : ∃ w2 : World, w2 = w1.alloc (.cells #[.func (.func 41) #[] #[], .func (.func 42) #[] #[], .func (.func 43) #[] #[], .func (.func 44) #[] #[], .func (.func 45) #[] #[]] 105) := ⟨_, rfl⟩
  rw [← hw2]
  have F0 : w2.cell? ⟨w1.heap.size, 0, none⟩ = some (.func (.func 41) #[] #[]) := by rw [hw2]; go_simp
  have F1 : w2.cell? ⟨w1.heap.size, 1, none⟩ = some (.func (.func 42) #[] #[]) := by rw [hw2]; go_simp
  have F2 : w2.cell? ⟨w1.heap.size, 2, none⟩ = some (.func (.func 43) #[] #[]) := by rw [hw2]; go_simp
  have F3 : w2.cell? ⟨w1.heap.size, 3, none⟩ = some (.func (.func 44) #[] #[]) := by rw [hw2]; go_simp
  have F4 : w2.cell? ⟨w1.heap.size, 4, none⟩ = some (.func (.func 45) #[] #[]) := by rw [hw2]; go_simp
  have e0 : w2.cell? ⟨w.heap.size, 0, none⟩ = some (.int .i64 T) := by rw [hw2]; go_simp
  have e1 : w2.cell? ⟨w.heap.size, 1, none⟩ = some (.int .i64 C) := by rw [hw2]; go_simp
  have e2 : w2.cell? ⟨w.heap.size, 2, none⟩ = some (.int .i64 B) := by rw [hw2]; go_simp
  have hB2 : Below w.heap.size w w2 := by rw [hw2]; exact (by repeat' (first | with_reducible exact Below.refl _ _ | with_reducible assumption | with_reducible refine Below.alloc ?_ ?_ _ | with_reducible refine Below.setCell ?_ ?_ _ | with_reducible refine Below.drew ?_ | with_reducible refine below_drewN ?_ _ | with_reducible refine Below.trans ?_ (Below.mono (by with_reducible assumption) ?_) | omega | (simp <;> omega)))
  have hz2 : w1.heap.size < w2.heap.size := by rw [hw2]; simp
  have hz3 : w.heap.size < w2.heap.size := by omega
  have HS := hide (hs.below hB2)
  have HM2 := hide (HM.out.grow hB2)
  clear hw2 hcc1 hff1 hb1
  go_loopw [15, 5] (fun i v wr => ∃ k : Nat, i = .int .i64 k ∧ k ≤ 5 ∧ wr.ownsRow w2.heap.size 3 1 v (outTo cs k).length ((outTo cs k).map (Value.int .i64)) ∧ Below w2.heap.size w2 wr) (fun i _ _ => 5 - (intOf i).toNat)
  case atStart => exact ⟨0, by go_num, by omega, World.ownsRow_nil _ _ _ _, (by repeat' (first | with_reducible exact Below.refl _ _ | with_reducible assumption | with_reducible refine Below.alloc ?_ ?_ _ | with_reducible refine Below.setCell ?_ ?_ _ | with_reducible refine Below.drew ?_ | with_reducible refine below_drewN ?_ _ | with_reducible refine Below.trans ?_ (Below.mono (by with_reducible assumption) ?_) | omega | (simp <;> omega)))⟩
  case round =>
    obtain ⟨k, rfl, hk, hown, hB⟩ := hrel
    obtain ⟨A0, cap0, rfl, hcp0, hbl0⟩ := own_slice hown
    have hsz := hB.size
    have f0 := (hB.cell (p := ⟨w.heap.size, 0, none⟩) hz3).trans e0
    have f1 := (hB.cell (p := ⟨w.heap.size, 1, none⟩) hz3).trans e1
    have f2 := (hB.cell (p := ⟨w.heap.size, 2, none⟩) hz3).trans e2
    have G0 := (hB.cell (p := ⟨w1.heap.size, 0, none⟩) hz2).trans F0
    have G1 := (hB.cell (p := ⟨w1.heap.size, 1, none⟩) hz2).trans F1
    have G2 := (hB.cell (p := ⟨w1.heap.size, 2, none⟩) hz2).trans F2
    have G3 := (hB.cell (p := ⟨w1.heap.size, 3, none⟩) hz2).trans F3
    have G4 := (hB.cell (p := ⟨w1.heap.size, 4, none⟩) hz2).trans F4
    have HSr := hide (HS.out.below hB)
    have HMr := hide (HM2.out.grow hB)
    have hlen := outTo_len cs k
    by_cases hlt : k < 5
    · have hcase : k = 0 ∨ k = 1 ∨ k = 2 ∨ k = 3 ∨ k = 4 := by omega
      rcases hcase with rfl | rfl | rfl | rfl | rfl
      · cases c0 with
        | true =>
          have Hst : Hid (outTo cs (0 + 1) = outTo cs 0) := hide (by rw [outTo_succ, Hcs.out]; simp)
          go_wp2_with (first
            | (go_at_call 41; refine (H0.out _ (HSr.out.below (by repeat' (first | with_reducible exact Below.refl _ _ | with_reducible assumption | with_reducible refine Below.alloc ?_ ?_ _ | with_reducible refine Below.setCell ?_ ?_ _ | with_reducible refine Below.drew ?_ | with_reducible refine below_drewN ?_ _ | with_reducible refine Below.trans ?_ (Below.mono (by with_reducible assumption) ?_) | omega | (simp <;> omega)))) (HMr.out.grow (by repeat' (first | with_reducible exact Below.refl _ _ | with_reducible assumption | with_reducible refine Below.alloc ?_ ?_ _ | with_reducible refine Below.setCell ?_ ?_ _ | with_reducible refine Below.drew ?_ | with_reducible refine below_drewN ?_ _ | with_reducible refine Below.trans ?_ (Below.mono (by with_reducible assumption) ?_) | omega | (simp <;> omega))))).mono ?_; rintro e' w5 ⟨rfl, hb5⟩; obtain ⟨hcc5, hff5⟩ := bcell hb5; have hs5 := hb5.size; (try simp at hs5)))
          exact ⟨⟨0 + 1, by go_num, by omega, by rw [Hst.out]; exact own_below hown hb5, (by repeat' (first | with_reducible exact Below.refl _ _ | with_reducible assumption | with_reducible refine Below.alloc ?_ ?_ _ | with_reducible refine Below.setCell ?_ ?_ _ | with_reducible refine Below.drew ?_ | with_reducible refine below_drewN ?_ _ | with_reducible refine Below.trans ?_ (Below.mono (by with_reducible assumption) ?_) | omega | (simp <;> omega)))⟩, by simp [intOf]⟩
        | false =>
          have Hst : Hid (outTo cs (0 + 1) = outTo cs 0 ++ [1]) := hide (by rw [outTo_succ, Hcs.out]; simp)
          go_wp2_with (first
            | (go_at_call 41; refine (H0.out _ (HSr.out.below (by repeat' (first | with_reducible exact Below.refl _ _ | with_reducible assumption | with_reducible refine Below.alloc ?_ ?_ _ | with_reducible refine Below.setCell ?_ ?_ _ | with_reducible refine Below.drew ?_ | with_reducible refine below_drewN ?_ _ | with_reducible refine Below.trans ?_ (Below.mono (by with_reducible assumption) ?_) | omega | (simp <;> omega)))) (HMr.out.grow (by repeat' (first | with_reducible exact Below.refl _ _ | with_reducible assumption | with_reducible refine Below.alloc ?_ ?_ _ | with_reducible refine Below.setCell ?_ ?_ _ | with_reducible refine Below.drew ?_ | with_reducible refine below_drewN ?_ _ | with_reducible refine Below.trans ?_ (Below.mono (by with_reducible assumption) ?_) | omega | (simp <;> omega))))).mono ?_; rintro e' w5 ⟨rfl, hb5⟩; obtain ⟨hcc5, hff5⟩ := bcell hb5; have hs5 := hb5.size; (try simp at hs5))
            | (at_builtin; refine wpList_append_rd rfl _ _ 44 rfl w2.heap.size 3 i0 _ 1 8 Tryz.underlying44 hi iz0 iz1 iz2 rfl (by decide) (.slice A0 (outTo cs 0).length cap0) (outTo cs 0).length ((outTo cs 0).map (Value.int .i64)) rfl (own_below hown (by repeat' (first | with_reducible exact Below.refl _ _ | with_reducible assumption | with_reducible refine Below.alloc ?_ ?_ _ | with_reducible refine Below.setCell ?_ ?_ _ | with_reducible refine Below.drew ?_ | with_reducible refine below_drewN ?_ _ | with_reducible refine Below.trans ?_ (Below.mono (by with_reducible assumption) ?_) | omega | (simp <;> omega)))) (some ⟨w5.heap.size, 0, none⟩) 1 1 [.int .i64 (0 + 1)] rfl _ (rd_one (by go_simp)) (by simp [Value.oneCell']) (by unfold maxLen; omega) (by omega) (by simp; omega) w2.heap.size w2 (by repeat' (first | with_reducible exact Below.refl _ _ | with_reducible assumption | with_reducible refine Below.alloc ?_ ?_ _ | with_reducible refine Below.setCell ?_ ?_ _ | with_reducible refine Below.drew ?_ | with_reducible refine below_drewN ?_ _ | with_reducible refine Below.trans ?_ (Below.mono (by with_reducible assumption) ?_) | omega | (simp <;> omega))) (Nat.le_refl _) ?_; intro v' w6 hown6 hb6 hsz6))
          exact ⟨⟨0 + 1, by go_num, by omega, by rw [Hst.out, List.length_append, List.map_append]; exact hown6, (by repeat' (first | with_reducible exact Below.refl _ _ | with_reducible assumption | with_reducible refine Below.alloc ?_ ?_ _ | with_reducible refine Below.setCell ?_ ?_ _ | with_reducible refine Below.drew ?_ | with_reducible refine below_drewN ?_ _ | with_reducible refine Below.trans ?_ (Below.mono (by with_reducible assumption) ?_) | omega | (simp <;> omega)))⟩, by simp [intOf]⟩
      · cases c1 with
        | true =>
          have Hst : Hid (outTo cs (1 + 1) = outTo cs 1) := hide (by rw [outTo_succ, Hcs.out]; simp)
          go_wp2_with (first
            | (go_at_call 42; refine (H1.out _ (HSr.out.below (by repeat' (first | with_reducible exact Below.refl _ _ | with_reducible assumption | with_reducible refine Below.alloc ?_ ?_ _ | with_reducible refine Below.setCell ?_ ?_ _ | with_reducible refine Below.drew ?_ | with_reducible refine below_drewN ?_ _ | with_reducible refine Below.trans ?_ (Below.mono (by with_reducible assumption) ?_) | omega | (simp <;> omega)))) (HMr.out.grow (by repeat' (first | with_reducible exact Below.refl _ _ | with_reducible assumption | with_reducible refine Below.alloc ?_ ?_ _ | with_reducible refine Below.setCell ?_ ?_ _ | with_reducible refine Below.drew ?_ | with_reducible refine below_drewN ?_ _ | with_reducible refine Below.trans ?_ (Below.mono (by with_reducible assumption) ?_) | omega | (simp <;> omega))))).mono ?_; rintro e' w5 ⟨rfl, hb5⟩; obtain ⟨hcc5, hff5⟩ := bcell hb5; have hs5 := hb5.size; (try simp at hs5)))
          exact ⟨⟨1 + 1, by go_num, by omega, by rw [Hst.out]; exact own_below hown hb5, (by repeat' (first | with_reducible exact Below.refl _ _ | with_reducible assumption | with_reducible refine Below.alloc ?_ ?_ _ | with_reducible refine Below.setCell ?_ ?_ _ | with_reducible refine Below.drew ?_ | with_reducible refine below_drewN ?_ _ | with_reducible refine Below.trans ?_ (Below.mono (by with_reducible assumption) ?_) | omega | (simp <;> omega)))⟩, by simp [intOf]⟩
        | false =>
          have Hst : Hid (outTo cs (1 + 1) = outTo cs 1 ++ [2]) := hide (by rw [outTo_succ, Hcs.out]; simp)
          go_wp2_with (first
            | (go_at_call 42; refine (H1.out _ (HSr.out.below (by repeat' (first | with_reducible exact Below.refl _ _ | with_reducible assumption | with_reducible refine Below.alloc ?_ ?_ _ | with_reducible refine Below.setCell ?_ ?_ _ | with_reducible refine Below.drew ?_ | with_reducible refine below_drewN ?_ _ | with_reducible refine Below.trans ?_ (Below.mono (by with_reducible assumption) ?_) | omega | (simp <;> omega)))) (HMr.out.grow (by repeat' (first | with_reducible exact Below.refl _ _ | with_reducible assumption | with_reducible refine Below.alloc ?_ ?_ _ | with_reducible refine Below.setCell ?_ ?_ _ | with_reducible refine Below.drew ?_ | with_reducible refine below_drewN ?_ _ | with_reducible refine Below.trans ?_ (Below.mono (by with_reducible assumption) ?_) | omega | (simp <;> omega))))).mono ?_; rintro e' w5 ⟨rfl, hb5⟩; obtain ⟨hcc5, hff5⟩ := bcell hb5; have hs5 := hb5.size; (try simp at hs5))
            | (at_builtin; refine wpList_append_rd rfl _ _ 44 rfl w2.heap.size 3 i0 _ 1 8 Tryz.underlying44 hi iz0 iz1 iz2 rfl (by decide) (.slice A0 (outTo cs 1).length cap0) (outTo cs 1).length ((outTo cs 1).map (Value.int .i64)) rfl (own_below hown (by repeat' (first | with_reducible exact Below.refl _ _ | with_reducible assumption | with_reducible refine Below.alloc ?_ ?_ _ | with_reducible refine Below.setCell ?_ ?_ _ | with_reducible refine Below.drew ?_ | with_reducible refine below_drewN ?_ _ | with_reducible refine Below.trans ?_ (Below.mono (by with_reducible assumption) ?_) | omega | (simp <;> omega)))) (some ⟨w5.heap.size, 0, none⟩) 1 1 [.int .i64 (1 + 1)] rfl _ (rd_one (by go_simp)) (by simp [Value.oneCell']) (by unfold maxLen; omega) (by omega) (by simp; omega) w2.heap.size w2 (by repeat' (first | with_reducible exact Below.refl _ _ | with_reducible assumption | with_reducible refine Below.alloc ?_ ?_ _ | with_reducible refine Below.setCell ?_ ?_ _ | with_reducible refine Below.drew ?_ | with_reducible refine below_drewN ?_ _ | with_reducible refine Below.trans ?_ (Below.mono (by with_reducible assumption) ?_) | omega | (simp <;> omega))) (Nat.le_refl _) ?_; intro v' w6 hown6 hb6 hsz6))
          exact ⟨⟨1 + 1, by go_num, by omega, by rw [Hst.out, List.length_append, List.map_append]; exact hown6, (by repeat' (first | with_reducible exact Below.refl _ _ | with_reducible assumption | with_reducible refine Below.alloc ?_ ?_ _ | with_reducible refine Below.setCell ?_ ?_ _ | with_reducible refine Below.drew ?_ | with_reducible refine below_drewN ?_ _ | with_reducible refine Below.trans ?_ (Below.mono (by with_reducible assumption) ?_) | omega | (simp <;> omega)))⟩, by simp [intOf]⟩
      · cases c2 with
        | true =>
          have Hst : Hid (outTo cs (2 + 1) = outTo cs 2) := hide (by rw [outTo_succ, Hcs.out]; simp)
          go_wp2_with (first
            | (go_at_call 43; refine (H2.out _ (HSr.out.below (by repeat' (first | with_reducible exact Below.refl _ _ | with_reducible assumption | with_reducible refine Below.alloc ?_ ?_ _ | with_reducible refine Below.setCell ?_ ?_ _ | with_reducible refine Below.drew ?_ | with_reducible refine below_drewN ?_ _ | with_reducible refine Below.trans ?_ (Below.mono (by with_reducible assumption) ?_) | omega | (simp <;> omega)))) (HMr.out.grow (by repeat' (first | with_reducible exact Below.refl _ _ | with_reducible assumption | with_reducible refine Below.alloc ?_ ?_ _ | with_reducible refine Below.setCell ?_ ?_ _ | with_reducible refine Below.drew ?_ | with_reducible refine below_drewN ?_ _ | with_reducible refine Below.trans ?_ (Below.mono (by with_reducible assumption) ?_) | omega | (simp <;> omega))))).mono ?_; rintro e' w5 ⟨rfl, hb5⟩; obtain ⟨hcc5, hff5⟩ := bcell hb5; have hs5 := hb5.size; (try simp at hs5)))
          exact ⟨⟨2 + 1, by go_num, by omega, by rw [Hst.out]; exact own_below hown hb5, (by repeat' (first | with_reducible exact Below.refl _ _ | with_reducible assumption | with_reducible refine Below.alloc ?_ ?_ _ | with_reducible refine Below.setCell ?_ ?_ _ | with_reducible refine Below.drew ?_ | with_reducible refine below_drewN ?_ _ | with_reducible refine Below.trans ?_ (Below.mono (by with_reducible assumption) ?_) | omega | (simp <;> omega)))⟩, by simp [intOf]⟩
        | false =>
          have Hst : Hid (outTo cs (2 + 1) = outTo cs 2 ++ [3]) := hide (by rw [outTo_succ, Hcs.out]; simp)
          go_wp2_with (first
            | (go_at_call 43; refine (H2.out _ (HSr.out.below (by repeat' (first | with_reducible exact Below.refl _ _ | with_reducible assumption | with_reducible refine Below.alloc ?_ ?_ _ | with_reducible refine Below.setCell ?_ ?_ _ | with_reducible refine Below.drew ?_ | with_reducible refine below_drewN ?_ _ | with_reducible refine Below.trans ?_ (Below.mono (by with_reducible assumption) ?_) | omega | (simp <;> omega)))) (HMr.out.grow (by repeat' (first | with_reducible exact Below.refl _ _ | with_reducible assumption | with_reducible refine Below.alloc ?_ ?_ _ | with_reducible refine Below.setCell ?_ ?_ _ | with_reducible refine Below.drew ?_ | with_reducible refine below_drewN ?_ _ | with_reducible refine Below.trans ?_ (Below.mono (by with_reducible assumption) ?_) | omega | (simp <;> omega))))).mono ?_; rintro e' w5 ⟨rfl, hb5⟩; obtain ⟨hcc5, hff5⟩ := bcell hb5; have hs5 := hb5.size; (try simp at hs5))
            | (at_builtin; refine wpList_append_rd rfl _ _ 44 rfl w2.heap.size 3 i0 _ 1 8 Tryz.underlying44 hi iz0 iz1 iz2 rfl (by decide) (.slice A0 (outTo cs 2).length cap0) (outTo cs 2).length ((outTo cs 2).map (Value.int .i64)) rfl (own_below hown (by repeat' (first | with_reducible exact Below.refl _ _ | with_reducible assumption | with_reducible refine Below.alloc ?_ ?_ _ | with_reducible refine Below.setCell ?_ ?_ _ | with_reducible refine Below.drew ?_ | with_reducible refine below_drewN ?_ _ | with_reducible refine Below.trans ?_ (Below.mono (by with_reducible assumption) ?_) | omega | (simp <;> omega)))) (some ⟨w5.heap.size, 0, none⟩) 1 1 [.int .i64 (2 + 1)] rfl _ (rd_one (by go_simp)) (by simp [Value.oneCell']) (by unfold maxLen; omega) (by omega) (by simp; omega) w2.heap.size w2 (by repeat' (first | with_reducible exact Below.refl _ _ | with_reducible assumption | with_reducible refine Below.alloc ?_ ?_ _ | with_reducible refine Below.setCell ?_ ?_ _ | with_reducible refine Below.drew ?_ | with_reducible refine below_drewN ?_ _ | with_reducible refine Below.trans ?_ (Below.mono (by with_reducible assumption) ?_) | omega | (simp <;> omega))) (Nat.le_refl _) ?_; intro v' w6 hown6 hb6 hsz6))
          exact ⟨⟨2 + 1, by go_num, by omega, by rw [Hst.out, List.length_append, List.map_append]; exact hown6, (by repeat' (first | with_reducible exact Below.refl _ _ | with_reducible assumption | with_reducible refine Below.alloc ?_ ?_ _ | with_reducible refine Below.setCell ?_ ?_ _ | with_reducible refine Below.drew ?_ | with_reducible refine below_drewN ?_ _ | with_reducible refine Below.trans ?_ (Below.mono (by with_reducible assumption) ?_) | omega | (simp <;> omega)))⟩, by simp [intOf]⟩
      · cases c3 with
        | true =>
          have Hst : Hid (outTo cs (3 + 1) = outTo cs 3) := hide (by rw [outTo_succ, Hcs.out]; simp)
          go_wp2_with (first
            | (go_at_call 44; refine (H3.out _ (HSr.out.below (by repeat' (first | with_reducible exact Below.refl _ _ | with_reducible assumption | with_reducible refine Below.alloc ?_ ?_ _ | with_reducible refine Below.setCell ?_ ?_ _ | with_reducible refine Below.drew ?_ | with_reducible refine below_drewN ?_ _ | with_reducible refine Below.trans ?_ (Below.mono (by with_reducible assumption) ?_) | omega | (simp <;> omega)))) (HMr.out.grow (by repeat' (first | with_reducible exact Below.refl _ _ | with_reducible assumption | with_reducible refine Below.alloc ?_ ?_ _ | with_reducible refine Below.setCell ?_ ?_ _ | with_reducible refine Below.drew ?_ | with_reducible refine below_drewN ?_ _ | with_reducible refine Below.trans ?_ (Below.mono (by with_reducible assumption) ?_) | omega | (simp <;> omega))))).mono ?_; rintro e' w5 ⟨rfl, hb5⟩; obtain ⟨hcc5, hff5⟩ := bcell hb5; have hs5 := hb5.size; (try simp at hs5)))
          exact ⟨⟨3 + 1, by go_num, by omega, by rw [Hst.out]; exact own_below hown hb5, (by repeat' (first | with_reducible exact Below.refl _ _ | with_reducible assumption | with_reducible refine Below.alloc ?_ ?_ _ | with_reducible refine Below.setCell ?_ ?_ _ | with_reducible refine Below.drew ?_ | with_reducible refine below_drewN ?_ _ | with_reducible refine Below.trans ?_ (Below.mono (by with_reducible assumption) ?_) | omega | (simp <;> omega)))⟩, by simp [intOf]⟩
        | false =>
          have Hst : Hid (outTo cs (3 + 1) = outTo cs 3 ++ [4]) := hide (by rw [outTo_succ, Hcs.out]; simp)
          go_wp2_with (first
            | (go_at_call 44; refine (H3.out _ (HSr.out.below (by repeat' (first | with_reducible exact Below.refl _ _ | with_reducible assumption | with_reducible refine Below.alloc ?_ ?_ _ | with_reducible refine Below.setCell ?_ ?_ _ | with_reducible refine Below.drew ?_ | with_reducible refine below_drewN ?_ _ | with_reducible refine Below.trans ?_ (Below.mono (by with_reducible assumption) ?_) | omega | (simp <;> omega)))) (HMr.out.grow (by repeat' (first | with_reducible exact Below.refl _ _ | with_reducible assumption | with_reducible refine Below.alloc ?_ ?_ _ | with_reducible refine Below.setCell ?_ ?_ _ | with_reducible refine Below.drew ?_ | with_reducible refine below_drewN ?_ _ | with_reducible refine Below.trans ?_ (Below.mono (by with_reducible assumption) ?_) | omega | (simp <;> omega))))).mono ?_; rintro e' w5 ⟨rfl, hb5⟩; obtain ⟨hcc5, hff5⟩ := bcell hb5; have hs5 := hb5.size; (try simp at hs5))
            | (at_builtin; refine wpList_append_rd rfl _ _ 44 rfl w2.heap.size 3 i0 _ 1 8 Tryz.underlying44 hi iz0 iz1 iz2 rfl (by decide) (.slice A0 (outTo cs 3).length cap0) (outTo cs 3).length ((outTo cs 3).map (Value.int .i64)) rfl (own_below hown (by repeat' (first | with_reducible exact Below.refl _ _ | with_reducible assumption | with_reducible refine Below.alloc ?_ ?_ _ | with_reducible refine Below.setCell ?_ ?_ _ | with_reducible refine Below.drew ?_ | with_reducible refine below_drewN ?_ _ | with_reducible refine Below.trans ?_ (Below.mono (by with_reducible assumption) ?_) | omega | (simp <;> omega)))) (some ⟨w5.heap.size, 0, none⟩) 1 1 [.int .i64 (3 + 1)] rfl _ (rd_one (by go_simp)) (by simp [Value.oneCell']) (by unfold maxLen; omega) (by omega) (by simp; omega) w2.heap.size w2 (by repeat' (first | with_reducible exact Below.refl _ _ | with_reducible assumption | with_reducible refine Below.alloc ?_ ?_ _ | with_reducible refine Below.setCell ?_ ?_ _ | with_reducible refine Below.drew ?_ | with_reducible refine below_drewN ?_ _ | with_reducible refine Below.trans ?_ (Below.mono (by with_reducible assumption) ?_) | omega | (simp <;> omega))) (Nat.le_refl _) ?_; intro v' w6 hown6 hb6 hsz6))
          exact ⟨⟨3 + 1, by go_num, by omega, by rw [Hst.out, List.length_append, List.map_append]; exact hown6, (by repeat' (first | with_reducible exact Below.refl _ _ | with_reducible assumption | with_reducible refine Below.alloc ?_ ?_ _ | with_reducible refine Below.setCell ?_ ?_ _ | with_reducible refine Below.drew ?_ | with_reducible refine below_drewN ?_ _ | with_reducible refine Below.trans ?_ (Below.mono (by with_reducible assumption) ?_) | omega | (simp <;> omega)))⟩, by simp [intOf]⟩
      · cases c4 with
        | true =>
          have Hst : Hid (outTo cs (4 + 1) = outTo cs 4) := hide (by rw [outTo_succ, Hcs.out]; simp)
          go_wp2_with (first
            | (go_at_call 45; refine (H4.out _ (HSr.out.below (by repeat' (first | with_reducible exact Below.refl _ _ | with_reducible assumption | with_reducible refine Below.alloc ?_ ?_ _ | with_reducible refine Below.setCell ?_ ?_ _ | with_reducible refine Below.drew ?_ | with_reducible refine below_drewN ?_ _ | with_reducible refine Below.trans ?_ (Below.mono (by with_reducible assumption) ?_) | omega | (simp <;> omega)))) (HMr.out.grow (by repeat' (first | with_reducible exact Below.refl _ _ | with_reducible assumption | with_reducible refine Below.alloc ?_ ?_ _ | with_reducible refine Below.setCell ?_ ?_ _ | with_reducible refine Below.drew ?_ | with_reducible refine below_drewN ?_ _ | with_reducible refine Below.trans ?_ (Below.mono (by with_reducible assumption) ?_) | omega | (simp <;> omega))))).mono ?_; rintro e' w5 ⟨rfl, hb5⟩; obtain ⟨hcc5, hff5⟩ := bcell hb5; have hs5 := hb5.size; (try simp at hs5)))
          exact ⟨⟨4 + 1, by go_num, by omega, by rw [Hst.out]; exact own_below hown hb5, (by repeat' (first | with_reducible exact Below.refl _ _ | with_reducible assumption | with_reducible refine Below.alloc ?_ ?_ _ | with_reducible refine Below.setCell ?_ ?_ _ | with_reducible refine Below.drew ?_ | with_reducible refine below_drewN ?_ _ | with_reducible refine Below.trans ?_ (Below.mono (by with_reducible assumption) ?_) | omega | (simp <;> omega)))⟩, by simp [intOf]⟩
        | false =>
          have Hst : Hid (outTo cs (4 + 1) = outTo cs 4 ++ [5]) := hide (by rw [outTo_succ, Hcs.out]; simp)
          go_wp2_with (first
            | (go_at_call 45; refine (H4.out _ (HSr.out.below (by repeat' (first | with_reducible exact Below.refl _ _ | with_reducible assumption | with_reducible refine Below.alloc ?_ ?_ _ | with_reducible refine Below.setCell ?_ ?_ _ | with_reducible refine Below.drew ?_ | with_reducible refine below_drewN ?_ _ | with_reducible refine Below.trans ?_ (Below.mono (by with_reducible assumption) ?_) | omega | (simp <;> omega)))) (HMr.out.grow (by repeat' (first | with_reducible exact Below.refl _ _ | with_reducible assumption | with_reducible refine Below.alloc ?_ ?_ _ | with_reducible refine Below.setCell ?_ ?_ _ | with_reducible refine Below.drew ?_ | with_reducible refine below_drewN ?_ _ | with_reducible refine Below.trans ?_ (Below.mono (by with_reducible assumption) ?_) | omega | (simp <;> omega))))).mono ?_; rintro e' w5 ⟨rfl, hb5⟩; obtain ⟨hcc5, hff5⟩ := bcell hb5; have hs5 := hb5.size; (try simp at hs5))
            | (at_builtin; refine wpList_append_rd rfl _ _ 44 rfl w2.heap.size 3 i0 _ 1 8 Tryz.underlying44 hi iz0 iz1 iz2 rfl (by decide) (.slice A0 (outTo cs 4).length cap0) (outTo cs 4).length ((outTo cs 4).map (Value.int .i64)) rfl (own_below hown (by repeat' (first | with_reducible exact Below.refl _ _ | with_reducible assumption | with_reducible refine Below.alloc ?_ ?_ _ | with_reducible refine Below.setCell ?_ ?_ _ | with_reducible refine Below.drew ?_ | with_reducible refine below_drewN ?_ _ | with_reducible refine Below.trans ?_ (Below.mono (by with_reducible assumption) ?_) | omega | (simp <;> omega)))) (some ⟨w5.heap.size, 0, none⟩) 1 1 [.int .i64 (4 + 1)] rfl _ (rd_one (by go_simp)) (by simp [Value.oneCell']) (by unfold maxLen; omega) (by omega) (by simp; omega) w2.heap.size w2 (by repeat' (first | with_reducible exact Below.refl _ _ | with_reducible assumption | with_reducible refine Below.alloc ?_ ?_ _ | with_reducible refine Below.setCell ?_ ?_ _ | with_reducible refine Below.drew ?_ | with_reducible refine below_drewN ?_ _ | with_reducible refine Below.trans ?_ (Below.mono (by with_reducible assumption) ?_) | omega | (simp <;> omega))) (Nat.le_refl _) ?_; intro v' w6 hown6 hb6 hsz6))
          exact ⟨⟨4 + 1, by go_num, by omega, by rw [Hst.out, List.length_append, List.map_append]; exact hown6, (by repeat' (first | with_reducible exact Below.refl _ _ | with_reducible assumption | with_reducible refine Below.alloc ?_ ?_ _ | with_reducible refine Below.setCell ?_ ?_ _ | with_reducible refine Below.drew ?_ | with_reducible refine below_drewN ?_ _ | with_reducible refine Below.trans ?_ (Below.mono (by with_reducible assumption) ?_) | omega | (simp <;> omega)))⟩, by simp [intOf]⟩
    · obtain rfl : k = 5 := by omega
      obtain ⟨A, cap', e1', hr⟩ := own_rd' hown
      injection e1' with e1' e2' e3'
      subst e1' e3'
      have Hr := hide hr
      clear hr hown
      go_wp2_with fail
      go_ret
      exact ⟨A0, cap0, rfl, Hr.out, fun b off e => by have := hbl0 b off e; omega, (by repeat' (first | with_reducible exact Below.refl _ _ | with_reducible assumption | with_reducible refine Below.alloc ?_ ?_ _ | with_reducible refine Below.setCell ?_ ?_ _ | with_reducible refine Below.drew ?_ | with_reducible refine below_drewN ?_ _ | with_reducible refine Below.trans ?_ (Below.mono (by with_reducible assumption) ?_) | omega | (simp <;> omega)))⟩
end Go.Proofs.YtbomhhkknopdpaaGreatDoor
