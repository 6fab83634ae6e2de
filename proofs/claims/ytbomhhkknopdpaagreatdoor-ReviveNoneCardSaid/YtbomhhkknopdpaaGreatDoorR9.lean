/- Package revive: Image. -/
import Derived.Test.YtbomhhkknopdpaaGreatDoorR7
import Derived.Test.YtbomhhkknopdpaaGreatDoorR8
namespace Go.Proofs.YtbomhhkknopdpaaGreatDoor
set_option linter.unusedSimpArgs false
set_option linter.unusedVariables false
open Go.RowKit
theorem askedL_err (T C B : Int) (ws : List W3) (t : Int) : (askedL T C B ws t).2.2.2 = 0 ∨ (askedL T C B ws t).2.2.2 = 5 := by
  unfold askedL
  simp only []
  split
  · right; rfl
  · left; rfl
/-- The report of a thread. -/
def repC (t : Int) (a : Int × Int × Int × Int) : List Value := [.int .i64 t, .int .i64 a.1, .int .i64 a.2.1, .int .i64 a.2.2.1]
def repsL (T C B : Int) (ws : List W3) (k : Nat) : List Value := (List.range k).flatMap (fun i : Nat => repC ((i : Int) + 1) (askedL T C B ws ((i : Int) + 1)))
theorem repsL_succ (T C B : Int) (ws : List W3) (k : Nat) : repsL T C B ws (k + 1) = repsL T C B ws k ++ repC ((k : Int) + 1) (askedL T C B ws ((k : Int) + 1)) := by unfold repsL; rw [List.range_succ, List.flatMap_append]; simp
/-- The records of the first k threads are well-formed. -/
def recsL (T C B : Int) (ws : List W3) (k : Nat) : Bool := (List.range k).all (fun i => (askedL T C B ws ((i : Int) + 1)).2.2.2 == 0)
theorem recsL_succ (T C B : Int) (ws : List W3) (k : Nat) : recsL T C B ws (k + 1) = (recsL T C B ws k && ((askedL T C B ws ((k : Int) + 1)).2.2.2 == 0)) := by unfold recsL; rw [List.range_succ, List.all_append]; simp
theorem recsL_no {T C B : Int} {ws : List W3} {k n : Nat} (h : recsL T C B ws k = false) (hk : k ≤ n) : recsL T C B ws n = false := by
  induction n with
  | zero => obtain rfl : k = 0 := by omega
            exact h
  | succ n ih =>
    rcases Nat.lt_or_ge n k with h2 | h2
    · obtain rfl : k = n + 1 := by omega
      exact h
    · rw [recsL_succ, ih h2]; rfl
def ImagePost (T C B : Int) (rw : List W3) (n : Nat) (w : World) (e : Ending) (w' : World) : Prop :=
  if recsL T C B rw T.toNat = true then ∃ (g cap : Nat) (A : Option Addr) (capA : Nat), e = .returned (.tuple #[.slice (some ⟨g, 0, none⟩) n cap, .slice A T.toNat capA, .int .i64 0]) ∧ Mem g rw w' ∧ w.heap.size ≤ g ∧ n ≤ cap ∧ cap ≤ maxLen ∧ Rd w' w'.heap.size 4 A T.toNat (repsL T C B rw T.toNat) ∧ Below w.heap.size w w'
  else e = .returned (.tuple #[.slice none 0 0, .slice none 0 0, .int .i64 5]) ∧ Below w.heap.size w w'
theorem info_rep : (Tryz.prog.info? 75).map (fun i => (i.zero, i.size, i.bytes)) = some (some (.agg #[.int .i64 0, .int .i64 0, .int .i64 0, .int .i64 0]), 4, 32) := by kernel_rfl
theorem rd_four {w : World} {b : Nat} {v0 v1 v2 v3 : Value} (h0 : w.cell? ⟨b, 0, none⟩ = some v0) (h1 : w.cell? ⟨b, 1, none⟩ = some v1) (h2 : w.cell? ⟨b, 2, none⟩ = some v2) (h3 : w.cell? ⟨b, 3, none⟩ = some v3) : Rd w w.heap.size 4 (some ⟨b, 0, none⟩) 1 [v0, v1, v2, v3] := ⟨rfl, fun _ => ⟨b, 0, rfl, cell_lt h0, fun j u hu => by
  rw [Nat.zero_add]
  match j, hu with
  | 0, hu => injection hu with hu; subst hu; exact h0
  | 1, hu => injection hu with hu; subst hu; exact h1
  | 2, hu => injection hu with hu; subst hu; exact h2
  | 3, hu => injection hu with hu; subst hu; exact h3
  | j + 4, hu => simp at hu⟩⟩
set_option maxHeartbeats 8000000 in
set_option maxRecDepth 100000 in
theorem image_ok (T C B : Int) (b n cap : Nat) (ws : List W3) (w : World) (hv : Valid T C B) (hs : Sizes w) (hM : Mem b ws w) (hl : ws.length = n) (hnm : n ≤ 1000000) (hcap : n ≤ cap) (hok : ∀ x ∈ ws, x.ok) (hn : fromL T C B 7 = (n : Int)) :
    Calls Tryz.prog 15 #[(.agg #[.int .i64 T, .int .i64 C, .int .i64 B]), .slice (some ⟨b, 0, none⟩) n cap] w (ImagePost T C B (redoL T C B ws) n w) := by
  have hpos := hs.pos
  have hb := hM.2.2
  obtain ⟨f1, f2, -, -, f5, f6⟩ := hv.1
  obtain ⟨M, rfl⟩ : ∃ M : Nat, T = (M : Int) := ⟨T.toNat, by omega⟩
  have hwd := fun W hs' hM' => words_ok M C B b n cap ws W hv hs' hM' hl hnm hcap hok hn
  have hrl : (redoL M C B ws).length = n := by rw [redoL_len, hl]
  have hrok := redoL_ok M C B hok
  obtain ⟨rw', hrw⟩ : ∃ r, r = redoL M C B ws := ⟨_, rfl⟩
  rw [← hrw] at hrl hrok ⊢
  simp only [← hrw] at hwd
  have Hwd := hide hwd
  have hak := fun (t : Int) (ht0 : 1 ≤ t) (ht1 : t ≤ M) (g cap' : Nat) (hc' : n ≤ cap') W hs' hM' => asked_ok M C B t g n cap' rw' W hv hs' hM' hrl hnm hc' hrok hn ht0 ht1
  have Hak := hide hak
  have HM := hide hM
  obtain ⟨Q, hQ⟩ : ∃ Q : Ending → World → Prop, Q = ImagePost M C B rw' n w := ⟨_, rfl⟩
  rw [← hQ]
  have HQ := hide hQ
  clear hwd hM hl hok hn hrl hrok hrw hak hQ
  obtain ⟨i0, hi, iz0, iz1, iz2⟩ := info_parts info_rep
  go_enter Tryz.func15, Tryz.ntmps15
  go_wp2_with (first
    | (go_at_call 8; refine (Hwd.out _ (hs.below (by repeat' (first | with_reducible exact Below.refl _ _ | with_reducible assumption | with_reducible refine Below.alloc ?_ ?_ _ | with_reducible refine Below.setCell ?_ ?_ _ | with_reducible refine Below.drew ?_ | with_reducible refine below_drewN ?_ _ | with_reducible refine Below.trans ?_ (Below.mono (by with_reducible assumption) ?_) | omega | (simp <;> omega)))) (HM.out.grow (by repeat' (first | with_reducible exact Below.refl _ _ | with_reducible assumption | with_reducible refine Below.alloc ?_ ?_ _ | with_reducible refine Below.setCell ?_ ?_ _ | with_reducible refine Below.drew ?_ | with_reducible refine below_drewN ?_ _ | with_reducible refine Below.trans ?_ (Below.mono (by with_reducible assumption) ?_) | omega | (simp <;> omega))))).mono ?_; rintro e w1 ⟨g, cp, rfl, hMg, hg, hcp, hcm, hb1⟩; (try simp at hg); obtain ⟨hcc1, hff1⟩ := bcell hb1; have hs1 := hb1.size; (try simp at hs1); have hz1 : w.heap.size < w1.heap.size := (by omega)))
  have e0 : w1.cell? ⟨w.heap.size, 0, none⟩ = some (.int .i64 M) := by go_simp
  have e1 : w1.cell? ⟨w.heap.size, 1, none⟩ = some (.int .i64 C) := by go_simp
  have e2 : w1.cell? ⟨w.heap.size, 2, none⟩ = some (.int .i64 B) := by go_simp
  have hB1 : Below w.heap.size w w1 := (by repeat' (first | with_reducible exact Below.refl _ _ | with_reducible assumption | with_reducible refine Below.alloc ?_ ?_ _ | with_reducible refine Below.setCell ?_ ?_ _ | with_reducible refine Below.drew ?_ | with_reducible refine below_drewN ?_ _ | with_reducible refine Below.trans ?_ (Below.mono (by with_reducible assumption) ?_) | omega | (simp <;> omega)))
  have HS1 := hide (hs.below hB1)
  have HG1 := hide hMg
  clear hcc1 hff1 hb1 hMg
  go_loopw [10, 9] (fun i v wr => ∃ k : Nat, i = .int .i64 ((k : Int) + 1) ∧ k ≤ M ∧ recsL M C B rw' k = true ∧ wr.ownsRow w1.heap.size 75 4 v k (repsL M C B rw' k) ∧ Below w1.heap.size w1 wr) (fun i _ _ => M + 1 - (intOf i).toNat)
  case atStart => exact ⟨0, by go_num, by omega, rfl, World.ownsRow_nil _ _ _ _, (by repeat' (first | with_reducible exact Below.refl _ _ | with_reducible assumption | with_reducible refine Below.alloc ?_ ?_ _ | with_reducible refine Below.setCell ?_ ?_ _ | with_reducible refine Below.drew ?_ | with_reducible refine below_drewN ?_ _ | with_reducible refine Below.trans ?_ (Below.mono (by with_reducible assumption) ?_) | omega | (simp <;> omega)))⟩
  case round =>
    obtain ⟨k, rfl, hk, hrec, hown, hB⟩ := hrel
    obtain ⟨A0, cap0, rfl, hcp0, hbl0⟩ := own_slice hown
    have hsz := hB.size
    have f0 := (hB.cell (p := ⟨w.heap.size, 0, none⟩) hz1).trans e0
    have f1 := (hB.cell (p := ⟨w.heap.size, 1, none⟩) hz1).trans e1
    have f2 := (hB.cell (p := ⟨w.heap.size, 2, none⟩) hz1).trans e2
    have HSr := hide (HS1.out.below hB)
    have HGr := hide (HG1.out.grow hB)
    have Hrec := hide hrec
    have hBr : Below w.heap.size w wr := hB1.trans (hB.mono (by omega))
    clear hrec
    by_cases hlt : k < M
    · have hle : (k : Int) + 1 ≤ (M : Int) := by omega
      have hrs := recsL_succ M C B rw' k
      rw [Hrec.out, Bool.true_and] at hrs
      have hst := repsL_succ M C B rw' k
      have her := askedL_err M C B rw' ((k : Int) + 1)
      have hk1 := fun W hs' hM' => Hak.out ((k : Int) + 1) (by omega) hle g cp hcp W hs' hM'
      obtain ⟨⟨a0, a1, a2, a3⟩, ha⟩ : ∃ a, a = askedL M C B rw' ((k : Int) + 1) := ⟨_, rfl⟩
      rw [← ha] at hrs hst her
      simp only [← ha] at hk1
      simp only [AskedPost, repC] at hk1 hst hrs her
      have Hst := hide hst
      have Hrs := hide hrs
      have Hk1 := hide hk1
      clear hst hrs hk1 ha
      rcases her with rfl | rfl
      · go_wp2_with (first
          | (go_at_call 46; refine (Hk1.out _ (HSr.out.below (by repeat' (first | with_reducible exact Below.refl _ _ | with_reducible assumption | with_reducible refine Below.alloc ?_ ?_ _ | with_reducible refine Below.setCell ?_ ?_ _ | with_reducible refine Below.drew ?_ | with_reducible refine below_drewN ?_ _ | with_reducible refine Below.trans ?_ (Below.mono (by with_reducible assumption) ?_) | omega | (simp <;> omega)))) (HGr.out.grow (by repeat' (first | with_reducible exact Below.refl _ _ | with_reducible assumption | with_reducible refine Below.alloc ?_ ?_ _ | with_reducible refine Below.setCell ?_ ?_ _ | with_reducible refine Below.drew ?_ | with_reducible refine below_drewN ?_ _ | with_reducible refine Below.trans ?_ (Below.mono (by with_reducible assumption) ?_) | omega | (simp <;> omega))))).mono ?_; rintro e' w5 ⟨rfl, hb5⟩; obtain ⟨hcc5, hff5⟩ := bcell hb5; have hs5 := hb5.size; (try simp at hs5))
          | (at_builtin; refine wpList_append_rd rfl _ _ 46 rfl w1.heap.size 75 i0 _ 4 32 Tryz.underlying46 hi iz0 iz1 iz2 rfl (by decide) (.slice A0 k cap0) k (repsL M C B rw' k) rfl (own_below hown (by repeat' (first | with_reducible exact Below.refl _ _ | with_reducible assumption | with_reducible refine Below.alloc ?_ ?_ _ | with_reducible refine Below.setCell ?_ ?_ _ | with_reducible refine Below.drew ?_ | with_reducible refine below_drewN ?_ _ | with_reducible refine Below.trans ?_ (Below.mono (by with_reducible assumption) ?_) | omega | (simp <;> omega)))) (some ⟨w5.heap.size + 1, 0, none⟩) 1 1 [.int .i64 ((k : Int) + 1), .int .i64 a0, .int .i64 a1, .int .i64 a2] rfl _ (rd_four (by go_simp) (by go_simp) (by go_simp) (by go_simp)) (by simp [Value.oneCell']) (by unfold maxLen; omega) (by omega) (by simp; omega) w1.heap.size w1 (by repeat' (first | with_reducible exact Below.refl _ _ | with_reducible assumption | with_reducible refine Below.alloc ?_ ?_ _ | with_reducible refine Below.setCell ?_ ?_ _ | with_reducible refine Below.drew ?_ | with_reducible refine below_drewN ?_ _ | with_reducible refine Below.trans ?_ (Below.mono (by with_reducible assumption) ?_) | omega | (simp <;> omega))) (Nat.le_refl _) ?_; intro v' w6 hown6 hb6 hsz6))
        exact ⟨⟨k + 1, by go_num, by omega, by rw [Hrs.out]; rfl, by rw [Hst.out]; exact hown6, (by repeat' (first | with_reducible exact Below.refl _ _ | with_reducible assumption | with_reducible refine Below.alloc ?_ ?_ _ | with_reducible refine Below.setCell ?_ ?_ _ | with_reducible refine Below.drew ?_ | with_reducible refine below_drewN ?_ _ | with_reducible refine Below.trans ?_ (Below.mono (by with_reducible assumption) ?_) | omega | (simp <;> omega)))⟩, by simp [intOf]; omega⟩
      · go_wp2_with (first
          | (go_at_call 46; refine (Hk1.out _ (HSr.out.below (by repeat' (first | with_reducible exact Below.refl _ _ | with_reducible assumption | with_reducible refine Below.alloc ?_ ?_ _ | with_reducible refine Below.setCell ?_ ?_ _ | with_reducible refine Below.drew ?_ | with_reducible refine below_drewN ?_ _ | with_reducible refine Below.trans ?_ (Below.mono (by with_reducible assumption) ?_) | omega | (simp <;> omega)))) (HGr.out.grow (by repeat' (first | with_reducible exact Below.refl _ _ | with_reducible assumption | with_reducible refine Below.alloc ?_ ?_ _ | with_reducible refine Below.setCell ?_ ?_ _ | with_reducible refine Below.drew ?_ | with_reducible refine below_drewN ?_ _ | with_reducible refine Below.trans ?_ (Below.mono (by with_reducible assumption) ?_) | omega | (simp <;> omega))))).mono ?_; rintro e' w5 ⟨rfl, hb5⟩; obtain ⟨hcc5, hff5⟩ := bcell hb5; have hs5 := hb5.size; (try simp at hs5)))
        rw [HQ.out]
        unfold ImagePost
        rw [Int.toNat_natCast, recsL_no (k := k + 1) (n := M) (by rw [Hrs.out]; rfl) (by omega), if_neg (by simp)]
        exact ⟨rfl, (by repeat' (first | with_reducible exact Below.refl _ _ | with_reducible assumption | with_reducible refine Below.alloc ?_ ?_ _ | with_reducible refine Below.setCell ?_ ?_ _ | with_reducible refine Below.drew ?_ | with_reducible refine below_drewN ?_ _ | with_reducible refine Below.trans ?_ (Below.mono (by with_reducible assumption) ?_) | omega | (simp <;> omega)))⟩
    · obtain rfl : M = k := by omega
      obtain ⟨A, capA, e1', hr⟩ := own_rd' hown
      injection e1' with e1' e2' e3'
      subst e1' e3'
      have Hr := hide hr
      clear hr hown
      go_wp2_with fail
      rw [HQ.out]
      unfold ImagePost
      rw [Int.toNat_natCast, Hrec.out, if_pos rfl]
      exact ⟨g, cp, A0, cap0, rfl, HGr.out, by omega, hcp, hcm, Hr.out, hBr⟩
end Go.Proofs.YtbomhhkknopdpaaGreatDoor
