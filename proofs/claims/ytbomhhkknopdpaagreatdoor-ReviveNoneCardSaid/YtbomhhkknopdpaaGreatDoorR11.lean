/- Package revive: records, swaps, clocks. -/
import Derived.Test.YtbomhhkknopdpaaGreatDoorR10
namespace Go.Proofs.YtbomhhkknopdpaaGreatDoor
set_option linter.unusedSimpArgs false
set_option linter.unusedVariables false
open Go.RowKit
set_option maxHeartbeats 2000000 in
set_option maxRecDepth 100000 in
theorem records_ok (T C B : Int) (b n cap : Nat) (ws : List W3) (w : World) (hv : Valid T C B) (hs : Sizes w) (hM : Mem b ws w) (hl : ws.length = n) (hnm : n ≤ 1000000) (hcap : n ≤ cap) (hok : ∀ x ∈ ws, x.ok) (hn : fromL T C B 7 = (n : Int)) :
    Calls Tryz.prog 42 #[(.agg #[.int .i64 T, .int .i64 C, .int .i64 B]), .slice (some ⟨b, 0, none⟩) n cap] w fun e w' => e = .returned (.bool (recsL T C B ws T.toNat)) ∧ Below w.heap.size w w' := by
  have hp := hs.pos
  obtain ⟨f1, f2, -, -, f5, f6⟩ := hv.1
  obtain ⟨w1, hw1⟩ : ∃ w1 : World, w1 = w.alloc (.cells #[.int .i64 T, .int .i64 C, .int .i64 B] 31) := ⟨_, rfl⟩
  have e0 : w1.cell? ⟨w.heap.size, 0, none⟩ = some (.int .i64 T) := by rw [hw1]; go_simp
  have e1 : w1.cell? ⟨w.heap.size, 1, none⟩ = some (.int .i64 C) := by rw [hw1]; go_simp
  have e2 : w1.cell? ⟨w.heap.size, 2, none⟩ = some (.int .i64 B) := by rw [hw1]; go_simp
  have hB1 : Below w.heap.size w w1 := by rw [hw1]; exact (by repeat' (first | with_reducible exact Below.refl _ _ | with_reducible assumption | with_reducible refine Below.alloc ?_ ?_ _ | with_reducible refine Below.setCell ?_ ?_ _ | with_reducible refine Below.drew ?_ | with_reducible refine below_drewN ?_ _ | with_reducible refine Below.trans ?_ (Below.mono (by with_reducible assumption) ?_) | omega | (simp <;> omega)))
  have HS := hide (hs.below hB1)
  have hz1 : w.heap.size < w1.heap.size := by rw [hw1]; simp
  have Hw1 := hide hw1
  clear hw1
  have HM1 := hide (hM.grow hB1)
  have hak := fun (t : Int) (ht0 : 1 ≤ t) (ht1 : t ≤ T) W hs' hM' => asked_ok T C B t b n cap ws W hv hs' hM' hl hnm hcap hok hn ht0 ht1
  have Hak := hide hak
  obtain ⟨M, rfl⟩ : ∃ M : Nat, T = (M : Int) := ⟨T.toNat, by omega⟩
  rw [Int.toNat_natCast]
  obtain ⟨R, hR⟩ : ∃ R, R = recsL M C B ws M := ⟨_, rfl⟩
  rw [← hR]
  have HR := hide hR
  clear hak hM hl hok hn hR
  go_enter Tryz.func42, Tryz.ntmps42
  go_wp2_with fail
  rw [← Hw1.out]
  go_loopw [5] (fun i wr => ∃ k : Nat, i = .int .i64 ((k : Int) + 1) ∧ k ≤ M ∧ recsL M C B ws k = true ∧ Below w1.heap.size w1 wr) (fun i _ => M + 1 - (intOf i).toNat)
  case atStart => exact ⟨0, by go_num, by omega, rfl, (by repeat' (first | with_reducible exact Below.refl _ _ | with_reducible assumption | with_reducible refine Below.alloc ?_ ?_ _ | with_reducible refine Below.setCell ?_ ?_ _ | with_reducible refine Below.drew ?_ | with_reducible refine below_drewN ?_ _ | with_reducible refine Below.trans ?_ (Below.mono (by with_reducible assumption) ?_) | omega | (simp <;> omega)))⟩
  case round =>
    obtain ⟨k, rfl, hk, hrec, hB⟩ := hrel
    have hsz := hB.size
    have f0 := (hB.cell (p := ⟨w.heap.size, 0, none⟩) hz1).trans e0
    have f1 := (hB.cell (p := ⟨w.heap.size, 1, none⟩) hz1).trans e1
    have f2 := (hB.cell (p := ⟨w.heap.size, 2, none⟩) hz1).trans e2
    have HSr := hide (HS.out.below hB)
    have HMr := hide (HM1.out.grow hB)
    have Hrec := hide hrec
    clear hrec
    by_cases hlt : k < M
    · have hle : (k : Int) + 1 ≤ (M : Int) := by omega
      have hrs := recsL_succ M C B ws k
      rw [Hrec.out, Bool.true_and] at hrs
      have her := askedL_err M C B ws ((k : Int) + 1)
      have hk1 := fun W hs' hM' => Hak.out ((k : Int) + 1) (by omega) hle W hs' hM'
      obtain ⟨⟨a0, a1, a2, a3⟩, ha⟩ : ∃ a, a = askedL M C B ws ((k : Int) + 1) := ⟨_, rfl⟩
      rw [← ha] at hrs her
      simp only [← ha] at hk1
      simp only [AskedPost] at hk1 hrs her
      have Hrs := hide hrs
      have Hk1 := hide hk1
      clear hrs hk1 ha
      rcases her with rfl | rfl
      · go_wp2_with (first
          | (go_at_call 46; refine (Hk1.out _ (HSr.out.below (by repeat' (first | with_reducible exact Below.refl _ _ | with_reducible assumption | with_reducible refine Below.alloc ?_ ?_ _ | with_reducible refine Below.setCell ?_ ?_ _ | with_reducible refine Below.drew ?_ | with_reducible refine below_drewN ?_ _ | with_reducible refine Below.trans ?_ (Below.mono (by with_reducible assumption) ?_) | omega | (simp <;> omega)))) (HMr.out.grow (by repeat' (first | with_reducible exact Below.refl _ _ | with_reducible assumption | with_reducible refine Below.alloc ?_ ?_ _ | with_reducible refine Below.setCell ?_ ?_ _ | with_reducible refine Below.drew ?_ | with_reducible refine below_drewN ?_ _ | with_reducible refine Below.trans ?_ (Below.mono (by with_reducible assumption) ?_) | omega | (simp <;> omega))))).mono ?_; rintro e' w5 ⟨rfl, hb5⟩; obtain ⟨hcc5, hff5⟩ := bcell hb5; have hs5 := hb5.size; (try simp at hs5)))
        exact ⟨⟨k + 1, by go_num, by omega, by rw [Hrs.out]; rfl, (by repeat' (first | with_reducible exact Below.refl _ _ | with_reducible assumption | with_reducible refine Below.alloc ?_ ?_ _ | with_reducible refine Below.setCell ?_ ?_ _ | with_reducible refine Below.drew ?_ | with_reducible refine below_drewN ?_ _ | with_reducible refine Below.trans ?_ (Below.mono (by with_reducible assumption) ?_) | omega | (simp <;> omega)))⟩, by simp [intOf]; omega⟩
      · go_wp2_with (first
          | (go_at_call 46; refine (Hk1.out _ (HSr.out.below (by repeat' (first | with_reducible exact Below.refl _ _ | with_reducible assumption | with_reducible refine Below.alloc ?_ ?_ _ | with_reducible refine Below.setCell ?_ ?_ _ | with_reducible refine Below.drew ?_ | with_reducible refine below_drewN ?_ _ | with_reducible refine Below.trans ?_ (Below.mono (by with_reducible assumption) ?_) | omega | (simp <;> omega)))) (HMr.out.grow (by repeat' (first | with_reducible exact Below.refl _ _ | with_reducible assumption | with_reducible refine Below.alloc ?_ ?_ _ | with_reducible refine Below.setCell ?_ ?_ _ | with_reducible refine Below.drew ?_ | with_reducible refine below_drewN ?_ _ | with_reducible refine Below.trans ?_ (Below.mono (by with_reducible assumption) ?_) | omega | (simp <;> omega))))).mono ?_; rintro e' w5 ⟨rfl, hb5⟩; obtain ⟨hcc5, hff5⟩ := bcell hb5; have hs5 := hb5.size; (try simp at hs5)))
        go_ret
        exact ⟨by rw [HR.out, recsL_no (k := k + 1) (n := M) (by rw [Hrs.out]; rfl) (by omega)]; rfl, (by repeat' (first | with_reducible exact Below.refl _ _ | with_reducible assumption | with_reducible refine Below.alloc ?_ ?_ _ | with_reducible refine Below.setCell ?_ ?_ _ | with_reducible refine Below.drew ?_ | with_reducible refine below_drewN ?_ _ | with_reducible refine Below.trans ?_ (Below.mono (by with_reducible assumption) ?_) | omega | (simp <;> omega)))⟩
    · obtain rfl : M = k := by omega
      go_wp2_with fail
      go_ret
      exact ⟨by rw [HR.out, Hrec.out]; rfl, (by repeat' (first | with_reducible exact Below.refl _ _ | with_reducible assumption | with_reducible refine Below.alloc ?_ ?_ _ | with_reducible refine Below.setCell ?_ ?_ _ | with_reducible refine Below.drew ?_ | with_reducible refine below_drewN ?_ _ | with_reducible refine Below.trans ?_ (Below.mono (by with_reducible assumption) ?_) | omega | (simp <;> omega)))⟩
def decSlots (T C B : Int) (ws : List W3) (k : Nat) : Bool := (List.range k).all (fun i : Nat => decidedW (ws.getD (atL T C B 4 (i : Nat) 0).toNat z3))
def decBlocks (T C B : Int) (ws : List W3) (k : Nat) : Bool := (List.range k).all (fun i : Nat => decidedW (ws.getD (atL T C B 6 (i : Nat) 0).toNat z3))
theorem decSlots_succ (T C B : Int) (ws : List W3) (k : Nat) : decSlots T C B ws (k + 1) = (decSlots T C B ws k && decidedW (ws.getD (atL T C B 4 (k : Nat) 0).toNat z3)) := by unfold decSlots; rw [List.range_succ, List.all_append]; simp
theorem decBlocks_succ (T C B : Int) (ws : List W3) (k : Nat) : decBlocks T C B ws (k + 1) = (decBlocks T C B ws k && decidedW (ws.getD (atL T C B 6 (k : Nat) 0).toNat z3)) := by unfold decBlocks; rw [List.range_succ, List.all_append]; simp
theorem all_no {f : Nat → Bool} {k n : Nat} (h : (List.range k).all f = false) (hk : k ≤ n) : (List.range n).all f = false := by
  rw [List.all_eq_false] at h ⊢
  obtain ⟨x, hx, hf⟩ := h
  exact ⟨x, List.mem_range.2 (by have := List.mem_range.1 hx; omega), hf⟩
def swapsL (T C B : Int) (ws : List W3) : Bool := decSlots T C B ws T.toNat && decBlocks T C B ws B.toNat
set_option maxHeartbeats 4000000 in
set_option maxRecDepth 100000 in
theorem swaps_ok (T C B : Int) (b n cap : Nat) (ws : List W3) (w : World) (hv : Valid T C B) (hs : Sizes w) (hM : Mem b ws w) (hl : ws.length = n) (hnm : n ≤ 1000000) (hn : fromL T C B 7 = (n : Int)) :
    Calls Tryz.prog 43 #[(.agg #[.int .i64 T, .int .i64 C, .int .i64 B]), .slice (some ⟨b, 0, none⟩) n cap] w fun e w' => e = .returned (.bool (swapsL T C B ws)) ∧ Below w.heap.size w w' := by
  have hp := hs.pos
  have hb := hM.2.2
  obtain ⟨f1, f2, -, -, f5, f6⟩ := hv.1
  obtain ⟨M, rfl⟩ : ∃ M : Nat, T = (M : Int) := ⟨T.toNat, by omega⟩
  obtain ⟨K, rfl⟩ : ∃ K : Nat, B = (K : Int) := ⟨B.toNat, by omega⟩
  unfold swapsL
  rw [Int.toNat_natCast, Int.toNat_natCast]
  obtain ⟨w1, hw1⟩ : ∃ w1 : World, w1 = w.alloc (.cells #[.int .i64 M, .int .i64 C, .int .i64 K] 31) := ⟨_, rfl⟩
  have e0 : w1.cell? ⟨w.heap.size, 0, none⟩ = some (.int .i64 M) := by rw [hw1]; go_simp
  have e1 : w1.cell? ⟨w.heap.size, 1, none⟩ = some (.int .i64 C) := by rw [hw1]; go_simp
  have e2 : w1.cell? ⟨w.heap.size, 2, none⟩ = some (.int .i64 K) := by rw [hw1]; go_simp
  have hB1 : Below w.heap.size w w1 := by rw [hw1]; exact (by repeat' (first | with_reducible exact Below.refl _ _ | with_reducible assumption | with_reducible refine Below.alloc ?_ ?_ _ | with_reducible refine Below.setCell ?_ ?_ _ | with_reducible refine Below.drew ?_ | with_reducible refine below_drewN ?_ _ | with_reducible refine Below.trans ?_ (Below.mono (by with_reducible assumption) ?_) | omega | (simp <;> omega)))
  have HS := hide (hs.below hB1)
  have hz1 : w.heap.size < w1.heap.size := by rw [hw1]; simp
  have Hw1 := hide hw1
  have HM1 := hide (hM.grow hB1)
  have Hl := hide hl
  have HN := hide hn
  obtain ⟨R1, hR1⟩ : ∃ R, R = decSlots M C K ws M := ⟨_, rfl⟩
  obtain ⟨R2, hR2⟩ : ∃ R, R = decBlocks M C K ws K := ⟨_, rfl⟩
  rw [← hR1, ← hR2]
  have HR1 := hide hR1
  have HR2 := hide hR2
  clear hw1 hM hl hn hR1 hR2
  go_enter Tryz.func43, Tryz.ntmps43
  go_wp2_with fail
  rw [← Hw1.out]
  go_loopw [5] (fun i wr => ∃ k : Nat, i = .int .i64 ((k : Int) + 1) ∧ k ≤ M ∧ decSlots M C K ws k = true ∧ Below w1.heap.size w1 wr) (fun i _ => M + 1 - (intOf i).toNat)
  case atStart => exact ⟨0, by go_num, by omega, rfl, (by repeat' (first | with_reducible exact Below.refl _ _ | with_reducible assumption | with_reducible refine Below.alloc ?_ ?_ _ | with_reducible refine Below.setCell ?_ ?_ _ | with_reducible refine Below.drew ?_ | with_reducible refine below_drewN ?_ _ | with_reducible refine Below.trans ?_ (Below.mono (by with_reducible assumption) ?_) | omega | (simp <;> omega)))⟩
  case round =>
    obtain ⟨k, rfl, hk, hrec, hB⟩ := hrel
    have hsz := hB.size
    have f0 := (hB.cell (p := ⟨w.heap.size, 0, none⟩) hz1).trans e0
    have f1 := (hB.cell (p := ⟨w.heap.size, 1, none⟩) hz1).trans e1
    have f2 := (hB.cell (p := ⟨w.heap.size, 2, none⟩) hz1).trans e2
    have HSr := hide (HS.out.below hB)
    have HMr := hide (HM1.out.grow hB)
    have Hrec := hide hrec
    have hvr : b < wr.heap.size := by omega
    clear hrec
    by_cases hlt : k < M
    · have hle : (k : Int) + 1 ≤ (M : Int) := by omega
      have hst := decSlots_succ M C K ws k
      have hin := atL_in M C K hv 4 (by decide) (k : Nat) 0 (by omega) (by show ((k : Nat) : Int) < (M : Int); omega) (by decide) (by decide)
      rw [HN.out] at hin
      have hsl := fun W hs' => slot_ok M C K ((k : Int) + 1) W hv hs' (by omega) (by omega)
      rw [show (k : Int) + 1 - 1 = (k : Nat) by omega] at hsl
      obtain ⟨p, hpp⟩ : ∃ p : Nat, atL M C K 4 (k : Nat) 0 = (p : Int) := ⟨(atL M C K 4 (k : Nat) 0).toNat, by omega⟩
      rw [hpp] at hsl hst hin
      rw [Int.toNat_natCast, Hrec.out, Bool.true_and] at hst
      obtain ⟨hin0, hin1⟩ := hin
      obtain ⟨x, hx⟩ : ∃ x, ws[p]? = some x := ⟨_, List.getElem?_eq_getElem (by rw [Hl.out]; omega)⟩
      have hx0 : ws.getD p z3 = x := by rw [List.getD_eq_getElem?_getD, hx]; rfl
      rw [hx0] at hst
      have x0 := HMr.out.w0 hx
      have x1 := HMr.out.w1 hx
      have x2 := HMr.out.w2 hx
      have Hsl := hide hsl
      have Hst := hide hst
      clear hsl hst hpp hx hx0
      cases hq : decidedW x with
      | true =>
        go_wp2_with (first
          | (go_at_call 36; refine (Hsl.out _ (HSr.out.below (by repeat' (first | with_reducible exact Below.refl _ _ | with_reducible assumption | with_reducible refine Below.alloc ?_ ?_ _ | with_reducible refine Below.setCell ?_ ?_ _ | with_reducible refine Below.drew ?_ | with_reducible refine below_drewN ?_ _ | with_reducible refine Below.trans ?_ (Below.mono (by with_reducible assumption) ?_) | omega | (simp <;> omega))))).mono ?_; rintro e' w5 ⟨rfl, hb5⟩; obtain ⟨hcc5, hff5⟩ := bcell hb5; have hs5 := hb5.size; (try simp at hs5))
          | (go_at_call 69; refine (decided_any x _).mono ?_; rintro e' w6 ⟨rfl, hb6⟩; rw [hq]))
        exact ⟨⟨k + 1, by go_num, by omega, by rw [Hst.out, hq], (by repeat' (first | with_reducible exact Below.refl _ _ | with_reducible assumption | with_reducible refine Below.alloc ?_ ?_ _ | with_reducible refine Below.setCell ?_ ?_ _ | with_reducible refine Below.drew ?_ | with_reducible refine below_drewN ?_ _ | with_reducible refine Below.trans ?_ (Below.mono (by with_reducible assumption) ?_) | omega | (simp <;> omega)))⟩, by simp [intOf]; omega⟩
      | false =>
        go_wp2_with (first
          | (go_at_call 36; refine (Hsl.out _ (HSr.out.below (by repeat' (first | with_reducible exact Below.refl _ _ | with_reducible assumption | with_reducible refine Below.alloc ?_ ?_ _ | with_reducible refine Below.setCell ?_ ?_ _ | with_reducible refine Below.drew ?_ | with_reducible refine below_drewN ?_ _ | with_reducible refine Below.trans ?_ (Below.mono (by with_reducible assumption) ?_) | omega | (simp <;> omega))))).mono ?_; rintro e' w5 ⟨rfl, hb5⟩; obtain ⟨hcc5, hff5⟩ := bcell hb5; have hs5 := hb5.size; (try simp at hs5))
          | (go_at_call 69; refine (decided_any x _).mono ?_; rintro e' w6 ⟨rfl, hb6⟩; rw [hq]))
        go_ret
        have hf : R1 = false := by rw [HR1.out]; exact all_no (k := k + 1) (by have h := Hst.out; rw [hq] at h; exact h) (by omega)
        exact ⟨by rw [hf]; rfl, (by repeat' (first | with_reducible exact Below.refl _ _ | with_reducible assumption | with_reducible refine Below.alloc ?_ ?_ _ | with_reducible refine Below.setCell ?_ ?_ _ | with_reducible refine Below.drew ?_ | with_reducible refine below_drewN ?_ _ | with_reducible refine Below.trans ?_ (Below.mono (by with_reducible assumption) ?_) | omega | (simp <;> omega)))⟩
    · obtain rfl : M = k := by omega
      obtain ⟨wo, rfl⟩ : ∃ wo : World, wo = wr := ⟨_, rfl⟩
      go_wp2_with fail
      clear f0 f1 f2 HSr HMr hlt hk
      go_loopw [23] (fun i wr => ∃ k : Nat, i = .int .i64 k ∧ k ≤ K ∧ decBlocks M C K ws k = true ∧ Below w1.heap.size w1 wr) (fun i _ => K - (intOf i).toNat)
      case atStart => exact ⟨0, by go_num, by omega, rfl, (by repeat' (first | with_reducible exact Below.refl _ _ | with_reducible assumption | with_reducible refine Below.alloc ?_ ?_ _ | with_reducible refine Below.setCell ?_ ?_ _ | with_reducible refine Below.drew ?_ | with_reducible refine below_drewN ?_ _ | with_reducible refine Below.trans ?_ (Below.mono (by with_reducible assumption) ?_) | omega | (simp <;> omega)))⟩
      case round =>
        clear hB hsz hvr
        obtain ⟨k, rfl, hk, hrec, hB⟩ := hrel
        have hsz := hB.size
        have f0 := (hB.cell (p := ⟨w.heap.size, 0, none⟩) hz1).trans e0
        have f1 := (hB.cell (p := ⟨w.heap.size, 1, none⟩) hz1).trans e1
        have f2 := (hB.cell (p := ⟨w.heap.size, 2, none⟩) hz1).trans e2
        have HSr := hide (HS.out.below hB)
        have HMr := hide (HM1.out.grow hB)
        have Hrec2 := hide hrec
        have hvr : b < wr.heap.size := by omega
        clear hrec
        by_cases hlt : k < K
        · have hst := decBlocks_succ M C K ws k
          have hin := atL_in M C K hv 6 (by decide) (k : Nat) 0 (by omega) (by show ((k : Nat) : Int) < (K : Int); omega) (by decide) (by decide)
          rw [HN.out] at hin
          have hsl := fun W hs' => block_ok M C K (k : Int) W hv hs'
          obtain ⟨p, hpp⟩ : ∃ p : Nat, atL M C K 6 (k : Nat) 0 = (p : Int) := ⟨(atL M C K 6 (k : Nat) 0).toNat, by omega⟩
          rw [hpp] at hsl hst hin
          rw [Int.toNat_natCast, Hrec2.out, Bool.true_and] at hst
          obtain ⟨hin0, hin1⟩ := hin
          obtain ⟨x, hx⟩ : ∃ x, ws[p]? = some x := ⟨_, List.getElem?_eq_getElem (by rw [Hl.out]; omega)⟩
          have hx0 : ws.getD p z3 = x := by rw [List.getD_eq_getElem?_getD, hx]; rfl
          rw [hx0] at hst
          have x0 := HMr.out.w0 hx
          have x1 := HMr.out.w1 hx
          have x2 := HMr.out.w2 hx
          have Hsl := hide hsl
          have Hst := hide hst
          clear hsl hst hpp hx hx0
          cases hq : decidedW x with
          | true =>
            go_wp2_with (first
              | (go_at_call 37; refine (Hsl.out _ (HSr.out.below (by repeat' (first | with_reducible exact Below.refl _ _ | with_reducible assumption | with_reducible refine Below.alloc ?_ ?_ _ | with_reducible refine Below.setCell ?_ ?_ _ | with_reducible refine Below.drew ?_ | with_reducible refine below_drewN ?_ _ | with_reducible refine Below.trans ?_ (Below.mono (by with_reducible assumption) ?_) | omega | (simp <;> omega))))).mono ?_; rintro e' w5 ⟨rfl, hb5⟩; obtain ⟨hcc5, hff5⟩ := bcell hb5; have hs5 := hb5.size; (try simp at hs5))
              | (go_at_call 69; refine (decided_any x _).mono ?_; rintro e' w6 ⟨rfl, hb6⟩; rw [hq]))
            exact ⟨⟨k + 1, by go_num, by omega, by rw [Hst.out, hq], (by repeat' (first | with_reducible exact Below.refl _ _ | with_reducible assumption | with_reducible refine Below.alloc ?_ ?_ _ | with_reducible refine Below.setCell ?_ ?_ _ | with_reducible refine Below.drew ?_ | with_reducible refine below_drewN ?_ _ | with_reducible refine Below.trans ?_ (Below.mono (by with_reducible assumption) ?_) | omega | (simp <;> omega)))⟩, by simp [intOf]; omega⟩
          | false =>
            go_wp2_with (first
              | (go_at_call 37; refine (Hsl.out _ (HSr.out.below (by repeat' (first | with_reducible exact Below.refl _ _ | with_reducible assumption | with_reducible refine Below.alloc ?_ ?_ _ | with_reducible refine Below.setCell ?_ ?_ _ | with_reducible refine Below.drew ?_ | with_reducible refine below_drewN ?_ _ | with_reducible refine Below.trans ?_ (Below.mono (by with_reducible assumption) ?_) | omega | (simp <;> omega))))).mono ?_; rintro e' w5 ⟨rfl, hb5⟩; obtain ⟨hcc5, hff5⟩ := bcell hb5; have hs5 := hb5.size; (try simp at hs5))
              | (go_at_call 69; refine (decided_any x _).mono ?_; rintro e' w6 ⟨rfl, hb6⟩; rw [hq]))
            go_ret
            have hf : R2 = false := by rw [HR2.out]; exact all_no (k := k + 1) (by have h := Hst.out; rw [hq] at h; exact h) (by omega)
            exact ⟨by rw [hf, Bool.and_false]; rfl, (by repeat' (first | with_reducible exact Below.refl _ _ | with_reducible assumption | with_reducible refine Below.alloc ?_ ?_ _ | with_reducible refine Below.setCell ?_ ?_ _ | with_reducible refine Below.drew ?_ | with_reducible refine below_drewN ?_ _ | with_reducible refine Below.trans ?_ (Below.mono (by with_reducible assumption) ?_) | omega | (simp <;> omega)))⟩
        · obtain rfl : K = k := by omega
          go_wp2_with fail
          go_ret
          exact ⟨by rw [HR1.out, HR2.out, Hrec.out, Hrec2.out]; rfl, (by repeat' (first | with_reducible exact Below.refl _ _ | with_reducible assumption | with_reducible refine Below.alloc ?_ ?_ _ | with_reducible refine Below.setCell ?_ ?_ _ | with_reducible refine Below.drew ?_ | with_reducible refine below_drewN ?_ _ | with_reducible refine Below.trans ?_ (Below.mono (by with_reducible assumption) ?_) | omega | (simp <;> omega)))⟩
end Go.Proofs.YtbomhhkknopdpaaGreatDoor
